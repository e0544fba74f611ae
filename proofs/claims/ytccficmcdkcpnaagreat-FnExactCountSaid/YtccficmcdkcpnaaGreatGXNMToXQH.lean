import Derived.Test.YtccficmcdkcpnaaGreatGPlainAToXNL
set_option linter.all false
namespace RC
open Go
theorem ep {α:Type}(L:Nat->Int->Int->List α->Option (Int×List α))(H:List α->Nat->Int->Int->Option (Int ⊕ Int))(wt:α->Nat)(ok:α->Prop)
  (h0 :∀n k l,L (n+1) k ((l.length:Nat):Int) l=some (k,l)) (g0 :∀l n k,H l (n+1) k ((l.length:Nat):Int)=some (.inr k))
  (hs :∀n (k:Nat) (A:List α) (x:α) (C:List α),A.length+C.length<=1048576->ok x->k+wt x<=20000000->∃(k':Nat) (y:α),k'<=k+wt x/\L (n+1) k ((A.length:Nat):Int) (A++x::C)=L n k' ((A.length+1:Nat):Int) (A++y::C)/\∀m E,H (A++y::E) (m+1) k ((A.length:Nat):Int)=H (A++y::E) m k' ((A.length+1:Nat):Int)) :
  ∀(C A:List α) (k n:Nat),C.length<n->A.length+C.length<=1048576->(∀x∈C,ok x)->k+(C.map wt).sum<=20000000->∃(k':Nat) (C':List α),k'<=k+(C.map wt).sum/\L n k ((A.length:Nat):Int) (A++C)=some ((k':Int),A++C')/\∀m,C.length<m->H (A++C') m k ((A.length:Nat):Int)=some (.inr (k':Int))
 | [],A,k,n,hn,_,_,_=>by
  obtain⟨n,rfl⟩ :∃m,n=m+1:=⟨n-1,by simp at hn;omega⟩
  refine⟨k,[],by simp,?_,λm hm=>?_⟩
  ·rw[vV,h0]
  ·obtain⟨m,rfl⟩ :∃q,m=q+1:=⟨m-1,by simp at hm;omega⟩
   rw[vV,g0]
 | x::C,A,k,n,hn,hl,zp,hk=>by
  simp only[vD,vK,wz]at hn hl hk⊢;obtain⟨n,rfl⟩ :∃m,n=m+1:=⟨n-1,by omega⟩
  obtain⟨k1,y,h1,h2,h5⟩:=hs n k A x C (by omega) (zp x (by simp)) (by omega);obtain⟨k2,C',h3,h4,h6⟩:=ep L H wt ok h0 g0 hs C (A++[y]) k1 n (by omega) (by simp;omega) (λz hz=>zp z (by simp[hz])) (by omega);refine⟨k2,y::C',by omega,?_,λm hm=>?_⟩
  ·rw[h2];simpa using h4
  ·obtain⟨m,rfl⟩ :∃q,m=q+1:=⟨m-1,by omega⟩
   rw[h5];have:=h6 m (by omega);simpa using this
theorem ZI {α:Type}{L:Nat->Int->Int->List α->Option (Int×List α)}{H:List α->Nat->Int->Int->Option (Int ⊕ Int)}{wt:α->Nat}{ok:α->Prop}
  (h0 :∀n k l,L (n+1) k ((l.length:Nat):Int) l=some (k,l)) (g0 :∀l n k,H l (n+1) k ((l.length:Nat):Int)=some (.inr k))
  (hs :∀n (k:Nat) (A:List α) (x:α) (C:List α),A.length+C.length<=1048576->ok x->k+wt x<=20000000->∃(k':Nat) (y:α),k'<=k+wt x/\L (n+1) k ((A.length:Nat):Int) (A++x::C)=L n k' ((A.length+1:Nat):Int) (A++y::C)/\∀m E,H (A++y::E) (m+1) k ((A.length:Nat):Int)=H (A++y::E) m k' ((A.length+1:Nat):Int))
  {l:List α} {k N:Nat} (hN:2000000<=N) (hl:l.length<=1048576) (zp :∀x∈l,ok x) (hk:k+(l.map wt).sum<=20000000) :∃(k':Nat) (l':List α),k'<=k+(l.map wt).sum/\L N k 0 l=some ((k':Int),l')/\H l' N k 0=some (.inr (k':Int)):=by
 obtain⟨k',l',h1,h2,h3⟩:=ep L H wt ok h0 g0 hs l [] k N (by omega) (by simp;omega) zp hk;exact⟨k',l',h1,h2,h3 N (by omega)⟩
theorem ql {l:List Bw}{k N:Nat}(hN:2000000<=N)(hl:l.length<=1048576)(zp :∀c∈l,cz c<=1048576)(hk:k+(l.map cz).sum<=20000000):∃(k':Nat) (l':List Bw),k'<=k+(l.map cz).sum/\LD N l k=some ((k':Int),l')/\LA N l' k=some (k':Int):=by
 obtain⟨k',l',h1,h2,h3⟩:=ZI (L:=Gr N) (H:=Gu N) (wt:=cz) (ok:=λc=>cz c<=1048576) (λn k l=>by rw[Gr,CX]) (λl n k=>by rw[Gu,CX]) (λn k A x C hA hx hk=>by
  refine⟨k+cz x,⟨Pg k (cz x)⟩,uq _,?_,λm E=>?_⟩
  ·rw[Gr,uX (by simp[Ah];omega),Gi,uJ,O7 hx (by omega) hN];simp only[uJ,Jc];rw[Fq (by omega)];rfl
  ·rw[Gu,uX (by simp[Ah];omega),Gi,uJ,O4 hx (by omega) hN,uJ];rw[uY (by simp<;>omega),Fq (by omega)]) hN hl zp hk
 refine⟨k',l',h1,?_,?_⟩
 ·unfold LD;rw[h2];rfl
 ·unfold LA;rw[h3];rfl
theorem oF {l:List AP}{k N:Nat}(hN:2000000<=N)(hl:l.length<=1048576)(zp :∀d∈l,dz d<=1048576)(hk:k+(l.map ll).sum<=20000000):∃(k':Nat) (l':List AP),k'<=k+(l.map ll).sum/\KO N l k=some ((k':Int),l')/\KT N l' k=some (k':Int):=by
 obtain⟨k',l',h1,h2,h3⟩:=ZI (L:=GJ N) (H:=GB N) (wt:=ll) (ok:=λd=>dz d<=1048576) (λn k l=>by rw[GJ,CX]) (λl n k=>by rw[GB,CX]) (λn k A x C hA hx hk=>by
  unfold dz at hx;unfold ll at hk⊢;obtain⟨k1,l1,g1,g2,g3⟩:=ql (l:=x.cons) (k:=k+1+1) hN (by omega) (λc hc=>by have:=Ij cz hc;omega) (by omega);refine⟨k1,⟨(k:Int),((k+1:Nat):Int),l1⟩,by omega,?_,λm E=>?_⟩
  ·rw[GJ,uX (by simp[Ah];omega),Fq (n:=k) (by omega),Fq (n:=k+1) (by omega),Fq (n:=A.length) (by omega)];simp only[Gi,Jc,uJ];rw[g2,uJ]
  ·rw[GB,uX (by simp[Ah];omega),Gi,uJ,Fq (n:=k) (by omega),Fq (n:=k+1) (by omega),Fq (n:=A.length) (by omega),g3];simp only[vB,vT,uN,uf,uJ];rw[uY (by simp<;>omega)]) hN hl zp hk
 refine⟨k',l',h1,?_,?_⟩
 ·unfold KO;rw[h2];rfl
 ·unfold KT;rw[h3];rfl
def MH (rec:List Step->Int->Option (Int×List Step))(rech:List Step->Int->Option Int)(l:List Step):Prop:=∀k:Nat,k+Yz l<=20000000->∃(k':Nat) (l':List Step),k'<=k+Yz l/\rec l k=some ((k':Int),l')/\rech l' k=some (k':Int)
theorem mg {rec:List Step->Int->Option (Int×List Step)}{rech:List Step->Int->Option Int}{l:List Block}{k N:Nat}(hN:2000000<=N)(hl:l.length<=1048576)(zp :∀b∈l,MH rec rech b.steps)(hk:k+bP l<=20000000):∃(k':Nat) (l':List Block),k'<=k+bP l/\Jw N rec l k=some ((k':Int),l')/\Jq N rech l' k=some (k':Int):=by
 rw[js]at hk⊢;obtain⟨k',l',h1,h2,h3⟩:=ZI (L:=FY rec) (H:=λl=>Fa l rech) (wt:=mb) (ok:=λb=>MH rec rech b.steps) (λn k l=>by rw[FY,CX]) (λl n k=>by rw[Fa,CX]) (λn k A x C hA hx hk=>by
  rw[sR]at hk⊢;obtain⟨k1,l1,g1,g2,g3⟩:=hx k (by omega);refine⟨k1+1,⟨l1,(k1:Int)⟩,by omega,?_,λm E=>?_⟩
  ·rw[FY,uX (by simp[Ah];omega),Fq (n:=A.length) (by omega)];simp only[Gi,Jc,uJ];rw[g2];simp only[Gi,Jc,uJ];rw[Fq (n:=k1) (by omega)]
  ·rw[Fa,uX (by simp[Ah];omega),Gi,uJ,g3];simp only[vB,vT,uN,uf,uJ];rw[uY (by simp<;>omega),Fq (n:=k1) (by omega),Fq (n:=A.length) (by omega)]) hN hl zp hk
 refine⟨k',l',h1,?_,?_⟩
 ·unfold Jw;rw[h2];rfl
 ·unfold Jq;rw[h3];rfl
theorem jY {N:Nat}(hN:2000000<=N):∀(m:Nat) (l:List Step),l.length+OG l<=1048576->l.length+OG l<m->MH (Ex N m) (E0 N m) l:=by
 intro m
 induction m with
 | zero=>intro l _ h;omega
 | succ m ih=>
  intro l hl hm k hk;rw[kV]at hk⊢;rw[Ex];unfold Ks;obtain⟨k',l',h1,h2,h3⟩:=ZI (L:=FD N (Ex N m)) (H:=λl=>FO N l (E0 N m)) (wt:=ms) (ok:=λs=>Py s<=1048576/\∀b∈s.kids,MH (Ex N m) (E0 N m) b.steps) (λn k l=>by rw[FD,CX]) (λl n k=>by rw[FO,CX]) (λn k A x C hA hx hk=>by
   have hz:=O8 x;obtain⟨hx1,hx2⟩:=hx;rw[sX]at hk⊢;obtain⟨o,nu,it,ar,kd⟩:=x;simp only[Step.args,Step.kids]at hz hx2 hk⊢;have e1:=O7 (l:=ar) (by omega) (k:=k+1+1+1) (by omega) hN;have e2:=O4 (m:=ar.length) (by omega) (k:=k+1+1+1) (by omega) hN;obtain⟨k1,l1,g1,g2,g3⟩:=mg (rec:=Ex N m) (rech:=E0 N m) (l:=kd) (k:=k+1+1+1+ar.length) hN (by omega) hx2 (by omega);refine⟨k1,⟨(k:Int),((k+1:Nat):Int),((k+1+1:Nat):Int),Pg (k+1+1+1) ar.length,l1⟩,by omega,?_,λq E=>?_⟩
   ·rw[FD,uX (by simp[Ah];omega),Fq (n:=k) (by omega),Fq (n:=k+1) (by omega),Fq (n:=k+1+1) (by omega),Fq (n:=A.length) (by omega)];simp only[Gi,Jc,uJ,Step.op,Step.num,Step.BF,Step.args,Step.kids];rw[e1];simp only[Gi,Jc,uJ,Step.op,Step.num,Step.BF,Step.args,Step.kids];rw[g2,uJ]
   ·rw[FO,uX (by simp[Ah];omega),Gi];simp only[uJ,Step.op,Step.num,Step.BF,Step.args,Step.kids];rw[Fq (n:=k) (by omega),Fq (n:=k+1) (by omega),Fq (n:=k+1+1) (by omega),Fq (n:=A.length) (by omega),e2];simp only[vB,vT,uN,uf,uJ];rw[uY (by simp<;>omega),g3,uJ];rw[uY (by simp<;>omega)]) hN (by omega) (λs hs=>by
    have h1:=ga hs;have h2:=wj hs;refine⟨by omega,λb hb=>?_⟩;have h3:=Rv hb;rw[N2]at h3;exact ih b.steps (by omega) (by omega)) hk
  refine⟨k',l',h1,?_,?_⟩
  ·rw[h2];rfl
  ·rw[E0];unfold Kh;rw[h3];rfl
theorem nh {N:Nat}(hN:2000000<=N){b:Block}(hb:Bs b):MH (MR N) (MB N) b.steps:=by
 unfold Bs at hb;rw[N2]at hb;unfold MR MB;exact jY hN N b.steps hb (by omega)
theorem gk {l:List Ad}{k N:Nat}(hN:2000000<=N)(hl:l.length<=1048576)(zp :∀r∈l,OH r<=1048576)(hk:k+(l.map mG).sum<=20000000):∃(k':Nat) (l':List Ad),k'<=k+(l.map mG).sum/\Il N l k=some ((k':Int),l')/\Ig N l' k=some (k':Int):=by
 obtain⟨k',l',h1,h2,h3⟩:=ZI (L:=Es N) (H:=Ew N) (wt:=mG) (ok:=λr=>OH r<=1048576) (λn k l=>by rw[Es,CX]) (λl n k=>by rw[Ew,CX]) (λn k A x C hA hx hk=>by
  unfold OH at hx;unfold mG at hk⊢;have e1:=O7 (l:=x.params) (by omega) (k:=k) (by omega) hN;have e2:=O7 (l:=x.Aq) (by omega) (k:=k+x.params.length) (by omega) hN;have f1:=O4 (m:=x.params.length) (by omega) (k:=k) (by omega) hN;have f2:=O4 (m:=x.Aq.length) (by omega) (k:=k+x.params.length) (by omega) hN;obtain⟨k1,l1,g1,g2,g3⟩:=nh hN (b:=x.body) (by unfold Bs;omega) (k+x.params.length+x.Aq.length+1) (by omega);refine⟨k1+1,⟨Pg k x.params.length,Pg (k+x.params.length) x.Aq.length,((k+x.params.length+x.Aq.length:Nat):Int),⟨l1,(k1:Int)⟩⟩,by omega,?_,λm E=>?_⟩
  ·rw[Es,uX (by simp[Ah];omega),Fq (n:=A.length) (by omega)];simp only[Gi,Jc,uJ];rw[e1];simp only[Gi,Jc,uJ];rw[e2];simp only[Gi,Jc,uJ];rw[Fq (n:=k+x.params.length+x.Aq.length) (by omega),g2];simp only[Gi,Jc,uJ];rw[Fq (n:=k1) (by omega)]
  ·rw[Ew,uX (by simp[Ah];omega),Gi,Fq (n:=A.length) (by omega),uJ,f1,uJ,uY (by simp<;>omega),f2,uJ,uY (by simp<;>omega),Fq (n:=k+x.params.length+x.Aq.length) (by omega),g3];simp only[vB,vT,uN,uf,uJ];rw[uY (by simp<;>omega),Fq (n:=k1) (by omega)]) hN hl zp hk
 refine⟨k',l',h1,?_,?_⟩
 ·unfold Il;rw[h2];rfl
 ·unfold Ig;rw[h3];rfl
theorem cf {n:AL}(hn:RW n<=1048576){N:Nat}(hN:2000000<=N):∃(k:Nat) (d:List AP) (r:List Ad),IP N n.decls n.AF 1=some ((k:Int),d,r)/\IN N ⟨d,r⟩ 1=some (k:Int):=by
 unfold RW at hn;have s1:(n.decls.map ll).sum<=2*n.decls.length+1*(n.decls.map dz).sum:=de λd _=>by unfold ll dz;omega
 have s2:(n.AF.map mG).sum<=2*n.AF.length+3*(n.AF.map OH).sum:=de λr _=>by
  have:=dL r.body.steps;unfold mG OH;rw[N2];omega
 obtain⟨k1,d,g1,g2,g3⟩:=oF (l:=n.decls) (k:=1) hN (by omega) (λd hd=>by have:=Ij dz hd;omega) (by omega);obtain⟨k2,r,g4,g5,g6⟩:=gk (l:=n.AF) (k:=k1) hN (by omega) (λd hd=>by have:=Ij OH hd;omega) (by omega);refine⟨k2,d,r,?_,?_⟩
 ·unfold IP;rw[show (1:Int)=((1:Nat):Int) from rfl,g2,uJ];rw[g5];rfl
 ·unfold IN;rw[show (1:Int)=((1:Nat):Int) from rfl,g3,uJ,uY (by simp<;>omega),g6,uJ,uY (by simp<;>omega)]
end RC
namespace RC
open Go
section
variable {n : AL} {R1 : AL -> List Int -> Block -> Option Int} {R2 : Ap -> List Int -> Block -> Option Int} {T : List Int -> Block -> Int} {s : Step} {v : List Int} {N : Nat} {t : Int}
theorem Ze {D:List AP}{F:List Kf}(S:QT D F){num:Int}(hN:2000000<=N){x:List Int}(h:CK N D num=some x):x.length<=3:=by
 have hD:=S.RO;have hn:=S.nc;by_cases hr:0<=num/\num<(nc D:Int)
 ·obtain⟨c,hc⟩:=vu hr.1;obtain⟨t',x',e1,e3⟩:=MV (D:=D) (by omega) (by omega) (show c<nc D by omega) hN;obtain⟨g1,g2,d,g3,g4⟩:=Tu e1;rw[hc,e3]at h;cases h;exact (S.Qr d g3 x' g4).1
 ·unfold CK at h;rw[QH (by omega) (by omega) (by omega) hN]at h;simp at h;rw[h];simp
structure OU (n:AL) (T:List Int->Block->Int) (s:Step) (v:List Int):Prop where
 args :∃l,DO v s.args=some l
 KK:s.args.length<=3
 call:s.op=9->∃r,r∈n.AF/\Sh.get n.AF s.num=some r/\Sh.get (CL n).funcs s.num=some ⟨r.params,r.Aq,r.result⟩
 dr:¬ s.op=7->¬ s.op=8->s.kids=[]
 tJ:s.op=7->s.kids.length=2/\∀k∈s.kids,0<=T v k
 tr:s.op=8->(Fc n.decls s.num).length=s.kids.length/\∀(i:Nat) c k,(Fc n.decls s.num)[i]?=some c->s.kids[i]?=some k->0<=T (v++Pb n.decls c) k
theorem cd {ts:List Int}(h:¬ IJ ts<0):∀t∈ts,0<=t:=by
 unfold IJ at h;cases ts with
 | nil=>simp
 | cons a r=>
  dsimp only at h;split at h
  ·rename_i h1;intro t ht;rcases uz.1 ht with rfl|ht
   ·omega
   ·have:=uS.1 h1 t ht;simp only[uj]at this;omega
  ·exact absurd (by decide) h
theorem rE {o:Option Bool}{x:Option (Int×Bool)}{t:Int}(h:(o.bind λc=>if c=true then some (-1,false) else x.bind λq=>some (q.1,q.2))=some (t,true)):x=some (t,true):=by
 cases o with
 | none=>simp at h
 | some c=>
  cases c with
  | true=>simp at h
  | false=>
   cases x with
   | none=>simp at h
   | some q=>simpa [Prod.ext_iff] using h
theorem lO (H:Ss n R1 R2 T (SW s))(V:SK n s v)(S:Ji n)(hN:2000000<=N)(h0:0<=s.op)(h5:s.op<=11)(hst:Bx N R2 (CL n) v s=some (t,true)):OU n T s v:=by
 obtain⟨b,hb1,hb2⟩:=Yt (n:=n) (s:=s) V.lS (by have:=V.Ov;omega);rw[Np (by have:=V.Ov;omega) V.KK hN hb2]at hst;have hI:=eu V.ay;cases ha:DO v s.args with
 | none=>rw[ha]at hst;simp at hst
 | some l=>
  rw[ha]at hst;have hal:=Ho ha;have hll:l.length<=1048576:=by have:=V.KK;omega
  cases b with
  | false=>simp at hst
  | true=>
   simp only[wG,vH]at hst;unfold Df at hst;rw[Ns,show Oi s.op=false by unfold Oi;rw[ve,uW,uW];omega]at hst;simp only[uJ,uN,uf]at hst;by_cases h7:s.op=7
   ·simp only[h7,vB,vH]at hst;have g1:l.length=1:=by
     refine wL λq=>?_;have:¬ ((l.length:Nat):Int)=1:=by omega
     simp[Ah,this]at hst
    obtain⟨a,rfl⟩:=List.length_eq_one_iff.1 g1;have g2:s.kids.length=2:=by
     refine wL λq=>?_;have q':¬ ((s.kids.length:Nat):Int)=2:=by omega
     by_cases q1:a=0<;>by_cases q2:s.num=0<;>simp[Ah,Sh.get,q1,q2,q']at hst
    have g3:a=0/\s.num=0:=by
     by_cases q1:a=0<;>by_cases q2:s.num=0<;>simp[Ah,Sh.get,q1,q2]at hst⊢
    simp only[Ah,g2,wS,Sh.get,g3.1,g3.2]at hst;rw[show Sh.mk ([]:List Int) 2 24=some [[],[]] from PR [] 2 24 (by decide) (by decide)]at hst;have e:=Ri H V hN (ms:=[[],[]]) (by simp[g2]) (by simp) (by simp) ZU;simp[e]at hst;have hneg:¬ IJ (LF T v [[],[]] s.kids)<0:=λq=>by simp[q]at hst
    have hall:=cd hneg;refine⟨⟨_,ha⟩,by simp at hal;omega,λq=>by omega,λq=>absurd h7 q,λ_=>⟨g2,λk hk=>?_⟩,λq=>by omega⟩
    match hks:s.kids,g2 with
    | [k0,k1],_=>
     rw[hks]at hk hall;simp[LF]at hall hk;rcases hk with rfl|rfl
     ·exact hall.1
     ·exact hall.2
   ·by_cases h8:s.op=8
    ·simp only[h8,Int.reduceEq,vB,vA,uN,vH,uf]at hst;rw[TY S hN]at hst;simp only[uJ]at hst;have g1:l.length=1:=by
      refine wL λq=>?_;have:¬ ((l.length:Nat):Int)=1:=by omega
      simp[Ah,this]at hst
     obtain⟨a,rfl⟩:=List.length_eq_one_iff.1 g1;have g2:(Fc n.decls s.num).length=s.kids.length:=by
      refine wL λq=>?_;have q':¬ ((s.kids.length:Nat):Int)=((Fc n.decls s.num).length:Int):=by omega
      by_cases q1:a=s.num<;>by_cases q2:((Fc n.decls s.num).length:Int)=0<;>simp[Ah,Sh.get,q1,q']at hst
     have g3:a=s.num:=by
      by_cases q1:a=s.num
      ·exact q1
      ·simp[Ah,Sh.get,q1]at hst
     have g4:¬ Fc n.decls s.num=[]:=λq=>by
      rw[q]at hst;simp[Ah,Sh.get,g3]at hst
     have g4':¬ ((Fc n.decls s.num).length:Int)=0:=λq=>g4 (vM (by omega));have hcl:=Pe S.ZV s.num;have hms:∀m∈(Fc n.decls s.num).map (Pb n.decls),m.length<=3/\∀x∈m,Dg n.decls x=true:=λm hm=>by
      obtain⟨c,hc,rfl⟩:=uw.1 hm;exact (Re S hc hN).2.2
     have e:=Ri H V hN (ms:=(Fc n.decls s.num).map (Pb n.decls)) (by simp[g2]) (by simpa using g4) (by simp;omega) hms;simp[Ah,Sh.get,g3,g4,g2,e]at hst;have hneg:¬ IJ (LF T v ((Fc n.decls s.num).map (Pb n.decls)) s.kids)<0:=λq=>by by_cases hk0:s.kids=[]<;>simp[q,hk0]at hst
     have hall:=cd hneg;refine⟨⟨_,ha⟩,by simp at hal;omega,λq=>by omega,λ_ q=>absurd h8 q,λq=>by omega,λ_=>⟨g2,λi c k hc hk=>?_⟩⟩;exact hall _ (uL (ZF (T:=T) (v:=v) (show ((Fc n.decls s.num).map (Pb n.decls))[i]?=some (Pb n.decls c) by rw[uP,hc];rfl) hk))
    ·have hk:s.kids=[]:=by
      refine wL λq=>?_;have q':decide (0<Sh.len s.kids)=true:=by
       have:=yK.2 q;simp[Ah];omega
      simp[h7,h8,q']at hst
     simp only[h7,h8,vA,uN,uf,hk,Ah,vl]at hst;have hsimp:Ak N (CL n) s.op s.num l=some (t,true):=rE hst;rw[show (CL n)=⟨n.decls,(CL n).funcs⟩ from rfl]at hsimp;have hG:(CL n).funcs.length<=4:=by rw[IZ];exact S.S5
     have key:l.length<=3/\(s.op=9->∃r,r∈n.AF/\Sh.get n.AF s.num=some r/\Sh.get (CL n).funcs s.num=some ⟨r.params,r.Aq,r.result⟩):=by
      by_cases c0:s.op=0
      ·rw[cD c0]at hsimp;simp at hsimp;exact⟨by simp[hsimp.2.2],λq=>by omega⟩
      by_cases c1:s.op=1∨s.op=2∨s.op=3∨s.op=4
      ·rw[S8 hll hN c1]at hsimp;simp at hsimp;exact⟨by simp[hsimp.2.2],λq=>by omega⟩
      by_cases c5:s.op=5
      ·rw[Tb hll hN c5]at hsimp;simp at hsimp;exact⟨by simp[hsimp.2.2],λq=>by omega⟩
      by_cases c6:s.op=6
      ·rcases Tt (G:=(CL n).funcs) S hll hI hN c6 with ⟨t',x,_,_,_,_,x5,x6⟩|⟨_,x6⟩
       ·rw[x6]at hsimp;simp at hsimp;exact⟨by rw[hsimp.2];exact Ze S hN x5,λq=>by omega⟩
       ·rw[x6]at hsimp;simp at hsimp
      by_cases c9:s.op=9
      ·rcases Vd S s.num with ⟨r,r0,r1,r2,r3,r4,_⟩|hr
       ·rw[Y6 hll hG hN c9 r0 (by rw[IZ];exact r1) r3]at hsimp;simp at hsimp;exact⟨by rw[hsimp.2];exact r4,λ_=>⟨r,uL (by rw[<- Nv r0];exact r2),r2,r3⟩⟩
       ·rw[OA hG (.inl c9) (by rw[IZ];exact hr)]at hsimp;simp at hsimp
      by_cases c10:s.op=10
      ·rcases Vd S s.num with ⟨r,r0,r1,r2,r3,r4,_⟩|hr
       ·rcases S3 (D:=n.decls) hll S.RO hG (f:=⟨r.params,r.Aq,r.result⟩) r4 hN c10 r0 (by rw[IZ];exact r1) r3 with ⟨_,x6⟩|⟨m,x,x1,x2,x6⟩
        ·rw[x6]at hsimp;simp at hsimp
        ·rw[x6]at hsimp;simp at hsimp;exact⟨by rw[hsimp.2.2];simp;omega,λq=>by omega⟩
       ·rw[OA hG (.inr c10) (by rw[IZ];exact hr)]at hsimp;simp at hsimp
      have c11:s.op=11:=by omega
      by_cases hl2:l.length=2
      ·exact⟨by omega,λq=>by omega⟩
      ·rw[PK c11 hl2]at hsimp;simp at hsimp
     exact⟨⟨_,ha⟩,by omega,key.2,λ_ _=>hk,λq=>absurd q h7,λq=>absurd q h8⟩
end
end RC
namespace RC
open Go
theorem jP {l:List Int}{x:Int}(hl:l.length<=1048576){N i:Nat}(hi:i<=l.length)(hN:l.length-i<N):
  (x∈l.drop i->∃j:Nat,CJ l x N (i:Int)=some (.inl (j:Int)))/\(x ∉ l.drop i->CJ l x N (i:Int)=some (.inr ())):=by
 refine BQ l.length (λN i=>(x∈l.drop i->∃j:Nat,CJ l x N (i:Int)=some (.inl (j:Int)))/\(x ∉ l.drop i->CJ l x N (i:Int)=some (.inr ()))) ?_ ?_ hi hN
 ·intro n;rw[xA];exact⟨λh=>(by cases h),λ_=>by rw[CJ,CX]⟩
 ·intro n i hi ih;obtain⟨y,hy,_⟩:=BX hi;rw[drop_cons hy,CJ,Cj,Ao hy];simp only[uJ,uz,not_or];rw[wN];by_cases e:x=y
  ·rw[uX (by simpa using e)];exact⟨λ_=>⟨i,rfl⟩,λh=>absurd e h.1⟩
  ·rw[uY (by simpa using e)];exact⟨λh=>ih.1 (h.resolve_left e),λh=>ih.2 h.2⟩
theorem QU {l:List Int}{x:Int}(hl:l.length<=1048576){N:Nat}(hN:2000000<=N):DE N l x=some (decide (x∈l)):=by
 have h:=jP (x:=x) hl (ue _) (by omega:l.length-0<N);rw[vG,zQ]at h;unfold DE Iq;by_cases hx:x∈l
 ·obtain⟨j,hj⟩:=h.1 hx;rw[hj];have:(0:Int)<=(j:Int):=by omega
  simp[Sh.cont,hx]
 ·rw[h.2 hx];simp[Sh.cont,hx]
theorem kz {l:List Int}{x:Int}(hl:l.length<=1048576){N i:Nat}(hi:i<=l.length)(hN:l.length-i<N):
  IK l x N (i:Int)=some (if x∈l.drop i then .inl true else .inr ()):=by
 refine BQ l.length (λN i=>IK l x N (i:Int)=some (if x∈l.drop i then .inl true else .inr ())) ?_ ?_ hi hN
 ·intro n;rw[xA,IK,CX];simp
 ·intro n i hi ih;obtain⟨y,hy,_⟩:=BX hi;rw[drop_cons hy,IK,Cj,Ao hy];simp only[uJ,uz];rw[wN,ih];by_cases e:y=x
  ·simp[e]
  ·have e':¬ x=y:=λq=>e q.symm;simp[e,e']
theorem Hm {l:List Int}{x:Int}(hl:l.length<=1048576){N:Nat}(hN:2000000<=N):Et N l x=some (decide (x∈l)):=by
 have h:=kz (x:=x) hl (ue _) (by omega:l.length-0<N);rw[vG,zQ]at h;unfold Et;rw[h];by_cases hx:x∈l<;>simp[hx,Sh.cont]
theorem jy {i j:Nat}(h:i+j<=4000000):Sh.wk .i64 (Sh.shr .u64 (Sh.wk .u64 (Sh.w ((i:Int)+(j:Int)))) 1)=(((i+j) / 2:Nat):Int):=by
 rw[wI];have e1:Sh.wk .u64 ((i:Int)+(j:Int))=((i+j:Nat):Int):=by
  unfold Sh.wk IntKind.wrap;simp[IntKind.bits,IntKind.signed];omega
 rw[e1];have e2:Sh.shr .u64 ((i+j:Nat):Int) 1=(((i+j) / 2:Nat):Int):=by
  unfold Sh.shr;rw[Int.fdiv_eq_ediv_of_nonneg _ (by simp[IntKind.bits])];simp[IntKind.bits]
 rw[e2];exact cJ (n:=(((i+j) / 2:Nat):Int)) (by omega) (by omega)
theorem gR (a b:Int):cmp_Less_int a b=some (decide (a<b)):=by
 unfold cmp_Less_int cmp_isNaN_int;simp
theorem nx {l:List Int}{v:Int}(hl:l.length<=1000000):∀(d i j M:Nat),j-i<=d->d<M->i<=j->j<=l.length->∃q:Nat,q<=l.length/\BN l v M (i:Int) (j:Int)=some (q:Int)/\((∀x∈l,x<v)->q=j):=by
 intro d
 induction d with
 | zero=>
  intro i j M h1 h2 h3 h4;obtain⟨M,rfl⟩ :∃m,M=m+1:=⟨M-1,by omega⟩
  refine⟨i,by omega,?_,λ_=>by omega⟩;rw[BN,uY (by simp;omega)]
 | succ d ih=>
  intro i j M h1 h2 h3 h4;obtain⟨M,rfl⟩ :∃m,M=m+1:=⟨M-1,by omega⟩
  rw[BN];by_cases hij:i<j
  ·obtain⟨x,hx,hxm⟩:=BX (l:=l) (i:=(i+j) / 2) (by omega);rw[uX (by simp;omega),jy (by omega),Ao hx,uJ,gR,uJ];by_cases hv:x<v
   ·rw[uX (by simpa using hv),wI,show (((i+j) / 2:Nat):Int)+1=(((i+j) / 2+1:Nat):Int) by omega];exact ih _ _ M (by omega) (by omega) (by omega) h4
   ·rw[uY (by simpa using hv)];obtain⟨q,q1,q2,_⟩:=ih i ((i+j) / 2) M (by omega) (by omega) (by omega) (by omega);exact⟨q,q1,q2,λh=>absurd (h x hxm) hv⟩
  ·rw[uY (by simp;omega)];exact⟨i,by omega,rfl,λ_=>by omega⟩
theorem kf {l:List Int}{v:Int}(hl:l.length<=1000000){N:Nat}(hN:2000000<=N):∃l',Dj N l v=some l'/\l'.length<=l.length+1/\((∀x∈l,x<v)->l'=l++[v]):=by
 obtain⟨q,q1,q2,q3⟩:=nx (l:=l) (v:=v) hl l.length 0 l.length N (by omega) (by omega) (by omega) (uq _);have ins:FV l [v] (q:Int)=some (l.take q++v::l.drop q):=by
  unfold FV;dsimp only;rw[uX ⟨by omega,by omega,by omega⟩];simp
 have cl:Cd l=some l:=by
  unfold Cd;rw[BU [] l 8 (by simp;omega) (by simp;omega)];rfl
 unfold Dj Bz;rw[show (0:Int)=((0:Nat):Int) from rfl,Ah,q2,uJ];by_cases hq:q<l.length
 ·obtain⟨x,hx,hxm⟩:=BX hq;rw[uX (by simp;omega),Ao hx,uJ];by_cases hv:x=v
  ·refine⟨l,by simp[hv],by omega,λh=>absurd (h x hxm) (by omega)⟩
  ·refine⟨l.take q++v::l.drop q,?_,by simp;omega,λh=>absurd (q3 h) (by omega)⟩;rw[uY (by simpa using hv)];unfold Hn;simp[cl,ins]
 ·refine⟨l.take q++v::l.drop q,?_,by simp;omega,λh=>?_⟩
  ·rw[uY (by simp;omega)];simp[cl,ins]
  ·have:q=l.length:=by omega
   subst this;simp
theorem W5 {l:List Int}{v:Int}(hl:l.length<=1000000)(h :∀x∈l,x<v){N:Nat}(hN:2000000<=N):Dj N l v=some (l++[v]):=by
 obtain⟨l',h1,_,h3⟩:=kf (l:=l) (v:=v) hl hN;rw[h1,h3 h]
def GR (o v:Int):Step:=.mk o 0 0 [v] []
theorem N3 {o:Int}{l:List Int}(hl:l.length<=1000000){N:Nat}(hN:2000000<=N):G4 N o l=some (l.map (GR o)):=by
 unfold G4;rw[T2 (l:=l) (GD o l) (GR o) (λn acc=>by rw[GD,CX]) (λn j c acc hc ha=>?_) (by omega)]
 ·rfl
 ·have hj:=(uK.1 hc).1;rw[GD,Cj,Ao hc,uJ];unfold Gf;simp only[uJ];rw[BU acc _ 72 (by simp;omega) (by simp;omega),uJ];rw[wN];rfl
def hf:Int->List Int->List Int
 | _,[]=>[]
 | m,t::r=>if t=0 then hf (m+1) r else m::hf (m+1) r
end RC
namespace RC
open Go
def bK (o:Int):Bool:=decide (o=6) || (decide (o=9) || (decide (o=10) || decide (o=11)))
theorem kq (o:Int):LH o=some (bK o):=by
 unfold LH bK;by_cases h1:o=6<;>by_cases h2:o=9<;>by_cases h3:o=10<;>simp[h1,h2,h3]
theorem lh (o:Int):Iz o=some (bK o):=by
 unfold Iz bK;by_cases h1:o=6<;>by_cases h2:o=9<;>by_cases h3:o=10<;>simp[h1,h2,h3]
section
variable {n : AL} {T : List Int -> Block -> Int} {s : Step} {w : List Int} {N : Nat}
variable {recS : AL -> List Int -> Block -> List Int -> Option Block} {recI : Ap -> Block -> List Int -> List Int -> Option Block}
theorem fY {m:List Int}(hw:w.length<=4000)(hm:m.length<=4000):IC w m=some (w++m):=by
 unfold IC;rw[bD (by omega),uJ];rw[BU w m 8 (by omega) (by omega)];rfl
end
end RC
namespace RC
open Go
section
variable {n : AL} {T : List Int -> Block -> Int} {N : Nat} {recS : AL -> List Int -> Block -> List Int -> Option Block} {recI : Ap -> Block -> List Int -> List Int -> Option Block}
end
end RC
namespace RC
open Go
theorem Wp {α:Type}{f:Nat->α->Bool}:∀(l:List α) (k:Nat),Eb f k l=true->∀(i:Nat) x,l[i]?=some x->f (k+i) x=true
 | [],_,_,_,_,h=>by simp at h
 | a::r,k,h,i,x,hx=>by
  rw[Eb,uT]at h;cases i with
  | zero=>simp only[vC,uO]at hx;subst hx;exact h.1
  | succ i=>
   have:=Wp r (k+1) h.2 i x (by simpa using hx);rwa [show k+1+i=k+(i+1) by omega]at this
theorem pJ {ps ls:List Int}(h:Eb (It ps ls) 0 ls=true):ls.length<=ps.length:=by
 have key:∀(i:Nat) v,ls[i]?=some v->(i:Int)<=v/\v<(ps.length:Int):=by
  intro i
  induction i with
  | zero=>
   intro v hv;have:=Wp ls 0 h 0 v hv;unfold It at this;simp only[uT,uj]at this;exact⟨this.1.1,this.1.2⟩
  | succ i ih=>
   intro v hv;have hi:=(uK.1 hv).1;obtain⟨u,hu,_⟩:=BX (l:=ls) (i:=i) (by omega);have h1:=(ih u hu).1;have:=Wp ls 0 h (i+1) v hv;unfold It at this;rw[show 0+(i+1)-1=i by omega,hu]at this;simp only[uT,vj,ve,uj,uW,wq]at this;obtain⟨⟨_,h2⟩,_,h3⟩:=this;exact⟨by omega,h2⟩
 refine wL λhc=>?_;obtain⟨v,hv,_⟩:=BX (l:=ls) (i:=ps.length) (by omega);have:=key _ v hv;omega
theorem P2 {α:Type}{f:α->Nat}{c:Nat}:∀{l:List α},(∀x∈l,f x<=c)->(l.map f).sum<=c*l.length
 | [],_=>by simp
 | a::l,h=>by
  have h1:=h a (by simp);have h2:=P2 (l:=l) λx hx=>h x (by simp[hx]);simp only[vK,wz,vD,Nat.mul_add,yr];omega
section
variable {n : AL} {N : Nat}
structure rP (n:AL) (N:Nat) (T:List Int->Block->Int):Prop where
 sig:Ji n
 uC:Ss n (Br N) (Bn N) T 601
 Ea :∀(v:List Int) (b:Block),E3 b<601->BK n b v->Dm N (Br N) n v b=some (T v b)
 tU :∀r∈n.AF,E3 r.body<=600/\BK n r.body r.params/\0<=T r.params r.body/\r.params.length<=3/\r.Aq.length<=3
theorem iG (S:Ki n)(hN:2000000<=N)(h:Fs N n=some true):(∃T,rP n N T)/\G9 N n=some (CL n,true):=by
 have hl:=S.S5;obtain⟨q,i1,i2⟩:=Xv S hN;unfold Fs at h;rw[Xw S hN]at h;simp only[uJ]at h;cases hs:eD n with
 | false=>rw[hs]at h;simp at h
 | true=>
  rw[hs]at h i1;have hs':=hs;unfold eD at hs';simp only[uT,uj,uS]at hs';have SO:Ji n:=QT.of (p:=⟨n.decls,n.AF.map UX⟩) (by
    rw[show List.map (λf:Kf=>(f.params,f.result)) (n.AF.map UX)=n.AF.map λr=>(r.params,r.result) by rw[wa];rfl];exact hs'.2.1)
  obtain⟨T,hT⟩:=V6 SO hN 601;have hBK:∀r∈n.AF,E3 r.body<=600->BK n r.body r.params:=λr hr he=>by
   obtain⟨q1,q2,q3⟩:=SO.kX (UX r) (xc hr);have q1':r.params.length<=3:=q1;exact⟨(S.ay.AF.1 r hr).body,(S.rz hr).2.2,by omega,q2⟩
  have L1:=DU (l:=n.AF) (DF N n) (λ_ r=>Ob T r) (λq=>by rw[DF,CX]) (λq i r hi=>by
   have hil:=(uK.1 hi).1;have hr:=uL hi;rw[DF,Cj,Ao hi,uJ,Qv (S.rz hr).2.2 hN,wI,show ((i:Int)+1)=((i+1:Nat):Int) by omega,uJ];unfold Ob;by_cases he:E3 r.body<=600
   ·rw[uX he,uY (by simp),(show Br N n r.params r.body=some (T r.params r.body) from (hT r.params r.body (by omega) (hBK r hr he) N N (by omega) (by omega)).1)];by_cases hq:T r.params r.body=r.result<;>simp[he,hq]
   ·rw[uY he];simp[he]) (by omega:n.AF.length<N)
  rw[EU]at L1;rw[L1]at h;simp only[vT,uN,uf]at h;rw[EC]at h;have hall:n.AF.all (Ob T)=true:=by
   cases hb:n.AF.all (Ob T) with
   | true=>rfl
   | false=>rw[hb]at h;simp at h
  rw[uS]at hall;refine⟨⟨T,SO,λv b a1 a2 a3 a4 a5=>hT v b a3 ⟨a1,a2,a4,a5⟩ N N (by omega) (by omega),λv b hb B=>?_,λr hr=>?_⟩,by rw[i1,i2 hs]⟩
  ·have:=(hT v b hb B (N+1) N (by omega) (by omega)).1;rwa [Dn]at this
  ·have hb:=hall r hr;unfold Ob at hb;simp only[uT,uj]at hb;obtain⟨q1,q2,q3⟩:=SO.kX (UX r) (xc hr);have q3':Dg n.decls r.result=true:=q3;have q1':r.params.length<=3:=q1;have hlent:Eb (It r.params r.Aq) 0 r.Aq=true:=hs'.2.2 r hr;have:=pJ hlent;exact⟨hb.1,hBK r hr hb.1,by rw[hb.2];exact (P6 q3').1,q1',by omega⟩
def ct (o:AL):Bool:=o.AF.all λr=>decide (E3 r.body<=600)
end
end RC
namespace RC
open Go
def ins:List Int->Int->List Int
 | [],x=>[x]
 | a::r,x=>if x<=a then (if x<a then x::a::r else a::r) else a::ins r x
theorem NJ:∀(l:List Int) (x:Int),(ins l x).length<=l.length+1
 | [],_=>by simp[ins]
 | a::r,x=>by
  have:=NJ r x;simp only[ins];split
  ·split<;>simp
  ·simp only[vD];omega
theorem OZ:∀(l:List Int) (x y:Int),y∈ins l x↔y=x∨y∈l
 | [],x,y=>by simp[ins]
 | a::r,x,y=>by
  have ih:=OZ r x y;simp only[ins];split
  ·split
   ·simp
   ·have:x=a:=by omega
    subst this;simp
  ·simp only[uz,ih];constructor
   ·rintro (h|h|h)<;>simp[h]
   ·rintro (h|h|h)<;>simp[h]
theorem OL:∀{l:List Int} (x:Int),l.Pairwise (·<·)->(ins l x).Pairwise (·<·)
 | [],x,_=>by simp[ins]
 | a::r,x,h=>by
  rw[wM]at h;simp only[ins];split
  ·split
   ·rename_i h1 h2;rw[wM,wM];refine⟨λy hy=>?_,h⟩;rcases uz.1 hy with rfl|hy
    ·exact h2
    ·have:=h.1 y hy;omega
   ·rw[wM];exact h
  ·rename_i h1;rw[wM];refine⟨λy hy=>?_,OL x h.2⟩;rcases (OZ r x y).1 hy with rfl|hy
   ·omega
   ·exact h.1 y hy
def QI:List Int->Int->Bool
 | [],_=>false
 | a::r,x=>if x<=a then true else QI r x
def R7 (l:List Int)(x:Int):List Int:=if QI l x then ins l x else l
theorem nq:∀(l:List Int) (x:Int),ins l x=if QI l x then R7 l x else R7 l x++[x]
 | [],x=>by simp[ins,QI,R7]
 | a::r,x=>by
  have ih:=nq r x;simp only[R7,QI,ins]at ih⊢;by_cases h:x<=a
  ·simp[h]
  ·simp only[h,uf]at ih⊢;by_cases hd:QI r x=true
   ·simp[hd]
   ·simp only[hd,uf]at ih⊢;simp[ih]
theorem YC {l:List Int}{x:Int}(hl:l.length<=1048576){N i:Nat}(hi:i<=l.length)(hN:l.length-i<N):∀acc:List Int,acc.length<=1048576+i->D6 l x N true (i:Int) acc=some (true,acc++l.drop i):=by
 refine BQ l.length (λN i=>∀acc:List Int,acc.length<=1048576+i->D6 l x N true (i:Int) acc=some (true,acc++l.drop i)) ?_ ?_ hi hN
 ·intro n acc _;rw[D6,CX];simp
 ·intro n i hi ih acc ha;obtain⟨y,hy,_⟩:=BX hi;rw[D6,Cj,Ao hy];simp only[vT,uN,uf,uJ];rw[BU _ _ 8 (by simp;omega) (by simp;omega),uJ,wI,show ((i:Int)+1)=((i+1:Nat):Int) by omega,ih _ (by simp;omega),drop_cons hy];simp
theorem bl {l:List Int}{x:Int}(hl:l.length<=1048576){N i:Nat}(hi:i<=l.length)(hN:l.length-i<N):∀acc:List Int,acc.length<=i->D6 l x N false (i:Int) acc=some (QI (l.drop i) x,acc++R7 (l.drop i) x):=by
 refine BQ l.length (λN i=>l.length-i<N->∀acc:List Int,acc.length<=i->D6 l x N false (i:Int) acc=some (QI (l.drop i) x,acc++R7 (l.drop i) x)) ?_ ?_ hi hN hN
 ·intro n _ acc _;rw[D6,CX];simp[QI,R7]
 ·intro n i hi ih hf acc ha;obtain⟨y,hy,_⟩:=BX hi;have ih:=ih (by omega);rw[D6,Cj,Ao hy];simp only[wB,vH,uJ];rw[wI (n:=(i:Int)+1),show ((i:Int)+1)=((i+1:Nat):Int) by omega,drop_cons hy];have done:=YC (l:=l) (x:=x) hl (N:=n) (i:=i+1) (by omega) (by omega);by_cases h:x<=y
  ·simp only[h,vB,vH];by_cases h2:x<y
   ·simp only[h2,vB,vH];rw[BU acc [x] 8 (by simp;omega) (by simp;omega)];simp only[uJ];rw[BU _ _ 8 (by simp;omega) (by simp;omega)];simp only[uJ];rw[done _ (by simp;omega)];simp[QI,R7,ins,h,h2]
   ·simp only[h2,vA,uN,uf,uJ];rw[BU _ _ 8 (by simp;omega) (by simp;omega),uJ,done _ (by simp;omega)];simp[QI,R7,ins,h,h2]
  ·simp only[h,vA,uN,uf,uJ];rw[BU _ _ 8 (by simp;omega) (by simp;omega),uJ,ih _ (by simp;omega)];simp only[QI,R7,ins,h,uf,vP,xx];cases QI (l.drop (i+1)) x<;>simp
theorem MP {l:List Int}{x:Int}(hl:l.length<=1048576){N:Nat}(hN:2000000<=N):JH N l x=some (ins l x):=by
 unfold JH;have:=bl (l:=l) (x:=x) hl (ue _) (by omega:l.length-0<N) [] (by simp);rw[zQ,vG]at this;rw[this];simp only[uJ,vh];rw[nq];cases hd:QI l x with
 | true=>simp
 | false=>
  simp only[wB,vH,uN,uf];have e:R7 l x=l:=by simp[R7,hd]
  rw[e,BU _ _ 8 (by simp;omega) (by simp;omega)];rfl
theorem TF:∀{a b:List Int},a.Pairwise (·<·)->b.Pairwise (·<·)->(∀x,x∈a↔x∈b)->a=b
 | [],[],_,_,_=>rfl
 | [],y::b,_,_,h=>by have:=(h y).2 (by simp);simp at this
 | x::a,[],_,_,h=>by have:=(h x).1 (by simp);simp at this
 | x::a,y::b,ha,hb,h=>by
  rw[wM]at ha hb;have e:x=y:=by
   rcases uz.1 ((h x).1 (by simp)) with e|h1
   ·exact e
   ·rcases uz.1 ((h y).2 (by simp)) with e|h2
    ·exact e.symm
    ·have:=hb.1 x h1;have:=ha.1 y h2;omega
  subst e;rw[TF ha.2 hb.2 λz=>?_];constructor
  ·intro hz;rcases uz.1 ((h z).1 (by simp[hz])) with e|h1
   ·subst e;have:=ha.1 z hz;omega
   ·exact h1
  ·intro hz;rcases uz.1 ((h z).2 (by simp[hz])) with e|h1
   ·subst e;have:=hb.1 z hz;omega
   ·exact h1
theorem Lf {l:List Int}{i:Nat}(h:i<l.length):l.toArray[i]! = l[i]:=by simp[h]
theorem eL {l:List Int}(h:l.Pairwise (·<=·)):(Lib.compact l).Pairwise (·<·):=by
 unfold Lib.compact Lib.compactUpTo;rw[List.pairwise_map,List.pairwise_filter];have hr:(List.range l.length).Pairwise (λa b=>a<b/\b<l.length):=by
  have h1:=List.pairwise_lt_range (n:=l.length);exact (List.Pairwise.and_mem.1 h1).imp λ⟨_,h2,h3⟩=>⟨h3,wQ.1 h2⟩
 refine hr.imp λ{i j} ⟨hij,hj⟩ _ hk=>?_;unfold Lib.keeps at hk;simp only[uj]at hk;have hk:l.toArray[j]!≠l.toArray[j-1]!:=hk.resolve_left (by omega);rw[Lf hj,Lf (by omega)]at hk;rw[Lf (by omega),Lf hj];have mono:∀a b (ha:a<l.length) (hb:b<l.length),a<=b->l[a]<=l[b]:=λa b ha hb hab=>by
  rcases Nat.lt_or_eq_of_le hab with h1|h1
  ·exact xG.1 h a b ha hb h1
  ·subst h1;exact xg _
 have h1:=mono i (j-1) (by omega) (by omega) (by omega);have h2:=mono (j-1) j (by omega) hj (by omega);omega
theorem dR {l:List Int}(x:Int):x∈Lib.compact l↔x∈l:=by
 unfold Lib.compact Lib.compactUpTo;simp only[uw,wP,wQ];constructor
 ·rintro⟨i,⟨hi,_⟩,rfl⟩;rw[Lf hi];exact xB hi
 ·intro hx;obtain⟨i,hi,rfl⟩:=List.mem_iff_getElem.1 hx;have key:∀(n:Nat) (hn:n<l.length),∃a,(a<l.length/\Lib.keeps l.toArray a=true)/\l.toArray[a]! = l[n]:=by
   intro n
   induction n with
   | zero=>exact λhn=>⟨0,⟨hn,by simp[Lib.keeps]⟩,Lf hn⟩
   | succ n ih=>
    intro hn;by_cases e:l[n+1]=l[n]
    ·obtain⟨a,h1,h2⟩:=ih (by omega);exact⟨a,h1,h2.trans e.symm⟩
    ·refine⟨n+1,⟨hn,?_⟩,Lf hn⟩;unfold Lib.keeps;simp only[uj];right;rw[Lf hn,Lf (by omega)];exact e
  exact key i hi
mutual
def vs:Step->List Int|.mk o _ _ a k=>if Oi o then [] else a++QS k
def QS:List (GX Step)->List Int|[]=>[]|b::k=>O3 b++QS k
def O3:GX Step->List Int|⟨ss,r⟩=>Jn ss++[r]
def Jn:List Step->List Int|[]=>[]|s::l=>vs s++Jn l
end
theorem oI (s:Step):vs s=if Oi s.op then [] else s.args++QS s.kids:=by cases s with|mk o x y a k=>show (if Oi o then [] else a++QS k)=_;rfl
theorem V4 (b:Block):O3 b=Jn b.steps++[b.result]:=by cases b;simp[O3]
mutual
theorem rq:∀s:Step,(vs s).length<=Py s
 | .mk o _ _ a k=>by
  have h1:=kI k;simp only[vs,Py];split<;>simp<;>omega
theorem kI:∀k:List (GX Step),(QS k).length<=k.length+NF k
 | []=>by simp[QS]
 | b::k=>by
  have h1:=qc b;have h2:=kI k;simp only[QS,NF,vD,uu];omega
theorem qc:∀b:GX Step,(O3 b).length<=1+KF b
 | ⟨ss,r⟩=>by
  have h1:=Wf ss;simp only[O3,KF,uu,wS];omega
theorem Wf:∀l:List Step,(Jn l).length<=OG l
 | []=>by simp[Jn]
 | s::l=>by
  have h1:=rq s;have h2:=Wf l;simp only[Jn,OG,uu];omega
end
theorem Rk (l:List Step)(i:Nat):(Jn (l.drop i)).length<=(Jn l).length:=by
 induction l generalizing i with
 | nil=>simp
 | cons s l ih=>
  cases i with
  | zero=>simp
  | succ i=>have:=ih i;simp only[yI,Jn,uu];omega
def EY (n:Int)(l xs:List Int):List Int:=xs.foldl (λacc x=>if 0<=x/\x<n then ins acc x else acc) l
theorem T7 (n:Int)(l xs ys:List Int):EY n l (xs++ys)=EY n (EY n l xs) ys:=by unfold EY;rw[List.foldl_append]
theorem RQ (n:Int):∀(xs l:List Int),(EY n l xs).length<=l.length+xs.length
 | [],l=>by simp[EY]
 | x::xs,l=>by
  have h1:=RQ n xs (if 0<=x/\x<n then ins l x else l);have h2:=NJ l x;have h3:(if 0<=x/\x<n then ins l x else l).length<=l.length+1:=by split<;>omega
  unfold EY at h1⊢;rw[xQ,vD];omega
theorem Mg (n:Int):∀(xs l:List Int) (y:Int),y∈EY n l xs↔y∈l∨(y∈xs/\0<=y/\y<n)
 | [],l,y=>by simp[EY]
 | x::xs,l,y=>by
  have h1:=Mg n xs (if 0<=x/\x<n then ins l x else l) y;unfold EY at h1⊢;rw[xQ,h1];by_cases hx:0<=x/\x<n
  ·rw[uX hx,OZ];simp only[uz];constructor
   ·rintro ((rfl|h)|⟨h,h'⟩)
    ·exact .inr ⟨.inl rfl,hx⟩
    ·exact .inl h
    ·exact .inr ⟨.inr h,h'⟩
   ·rintro (h|⟨(rfl|h),h'⟩)
    ·exact .inl (.inr h)
    ·exact .inl (.inl rfl)
    ·exact .inr ⟨h,h'⟩
  ·rw[uY hx];simp only[uz];constructor
   ·rintro (h|⟨h,h'⟩)
    ·exact .inl h
    ·exact .inr ⟨.inr h,h'⟩
   ·rintro (h|⟨(rfl|h),h'⟩)
    ·exact .inl h
    ·exact absurd h' hx
    ·exact .inr ⟨h,h'⟩
theorem T0 (n:Int):∀(xs:List Int) {l:List Int},l.Pairwise (·<·)->(EY n l xs).Pairwise (·<·)
 | [],_,h=>h
 | x::xs,l,h=>by
  unfold EY;rw[xQ];refine T0 n xs ?_;split
  ·exact OL x h
  ·exact h
theorem fE {s:Step}{n:Int}(ha:s.args.length<=1048576){M:Nat}(hM:2000000<=M){N i:Nat}(hi:i<=s.args.length)(hN:s.args.length-i<N):∀l:List Int,l.length+(s.args.length-i)<=1048577->EN M s n N l (i:Int)=some (EY n l (s.args.drop i)):=by
 refine BQ s.args.length (λN i=>∀l:List Int,l.length+(s.args.length-i)<=1048577->EN M s n N l (i:Int)=some (EY n l (s.args.drop i))) ?_ ?_ hi hN
 ·intro f l _;rw[EN,CX];simp[EY]
 ·intro f i hi ih l hl;obtain⟨x,hx,_⟩:=BX hi;have hil:=NJ l x;rw[EN,Cj,Ao hx,uJ,wN,drop_cons hx];have hins:=MP (x:=x) (l:=l) (by omega) hM;by_cases h0:0<=x
  ·by_cases h1:x<n
   ·simp only[h0,h1,vB,vH,uJ];rw[hins];simp only[uJ];rw[ih _ (by omega)];simp[EY,h0,h1]
   ·simp only[h0,h1,vB,vA,vH,uJ,uN,uf];rw[ih _ (by omega)];simp[EY,h1]
  ·simp only[h0,vA,uJ,uN,uf];rw[ih _ (by omega)];simp[EY,h0]
def AU (rec:Block->Int->Int->List Int->Option (List Int))(b:Block):Prop:=∀(n:Int) (l:List Int),l.length+(O3 b).length<=1048577->rec b n 0 l=some (EY n l (O3 b))
theorem fh {s:Step}{n:Int}{rec:Block->Int->Int->List Int->Option (List Int)}(hk:s.kids.length<=1048576)(hrec :∀c∈s.kids,AU rec c){N i:Nat}(hi:i<=s.kids.length)(hN:s.kids.length-i<N):∀l:List Int,l.length+(QS (s.kids.drop i)).length<=1048577->EK s n rec N l (i:Int)=some (EY n l (QS (s.kids.drop i))):=by
 refine BQ s.kids.length (λN i=>∀l:List Int,l.length+(QS (s.kids.drop i)).length<=1048577->EK s n rec N l (i:Int)=some (EY n l (QS (s.kids.drop i)))) ?_ ?_ hi hN
 ·intro f l _;rw[EK,CX];simp[EY,QS]
 ·intro f i hi ih l hl;obtain⟨c,hc,hcm⟩:=BX hi;rw[drop_cons hc,QS,uu]at hl;have hil:=RQ n (O3 c) l;rw[EK,Cj,Ao hc,uJ,hrec c hcm n l (by omega),uJ,wN,ih _ (by omega),drop_cons hc,QS,T7]
theorem fm {N:Nat}(hN:2000000<=N){rec:Block->Int->Int->List Int->Option (List Int)}{s:Step}{n:Int}(ha:s.args.length<=1048576)(hk:s.kids.length<=1048576)(hrec :∀c∈s.kids,AU rec c){l:List Int}(hl:l.length+(vs s).length<=1048577):I2 N rec s n l=some (EY n l (vs s)):=by
 rw[oI]at hl⊢;unfold I2;rw[cr,uJ];cases hc:Oi s.op with
 | true=>simp[EY]
 | false=>
  rw[hc]at hl;simp only[uN,uf,uu]at hl⊢;have h1:=fE (s:=s) (n:=n) ha hN (ue _) (by omega:s.args.length-0<N) l (by omega);have h0:=RQ n s.args l;have h2:=fh (s:=s) (n:=n) hk hrec (ue _) (by omega:s.kids.length-0<N) (EY n l s.args) (by rw[vG];omega);rw[zQ,vG]at h1 h2;rw[h1,uJ];rw[h2,T7];rfl
theorem gh {b:Block}{n:Int}{rec:Block->Int->Int->List Int->Option (List Int)}{M:Nat}(hM:2000000<=M)(hb:Bs b)(hrec :∀s∈b.steps,∀c∈s.kids,AU rec c){N i:Nat}(hi:i<=b.steps.length)(hN:b.steps.length-i<N):∀l:List Int,l.length+(Jn (b.steps.drop i)).length<=1048577->FA M b n rec N l (i:Int)=some (EY n l (Jn (b.steps.drop i))):=by
 have hbl:=hb.len;refine BQ b.steps.length (λN i=>∀l:List Int,l.length+(Jn (b.steps.drop i)).length<=1048577->FA M b n rec N l (i:Int)=some (EY n l (Jn (b.steps.drop i)))) ?_ ?_ hi hN
 ·intro f l _;rw[FA,CX];simp[EY,Jn]
 ·intro f i hi ih l hl;obtain⟨s,hs,hsm⟩:=BX hi;rw[drop_cons hs,Jn,uu]at hl;have hil:=RQ n (vs s) l;rw[FA,Cj,Ao hs,uJ,fm hM (cv hb hsm) (Nu hb hsm) (hrec s hsm) (by omega),uJ,wN,ih _ (by omega),drop_cons hs,Jn,T7]
theorem jk {N:Nat}(hN:2000000<=N):∀(m:Nat) (b:Block),Bs b->KF b<m->∀(n:Int) (i:Nat) (l:List Int),i<=b.steps.length->l.length+(Jn (b.steps.drop i)).length+1<=1048577->Iw N m b n i l=some (EY n l (Jn (b.steps.drop i)++[b.result])):=by
 intro m
 induction m with
 | zero=>intro b _ h;omega
 | succ m ih=>
  intro b hb hm n i l hi hl;have hbl:=hb.len;have hil:=RQ n (Jn (b.steps.drop i)) l;rw[Iw];unfold MT;rw[gh hN hb (λs hs c hc n l hl=>by
   have h1:=MG hb hs hc;rw[V4]at hl⊢;have:=ih c h1.1 (by omega) n 0 l (ue _) (by simp only[uu,wS]at hl;rw[vG];omega);rwa [zQ,vG]at this) hi (by omega) l (by omega)]
  simp only[uJ];have hins:=MP (x:=b.result) (l:=EY n l (Jn (b.steps.drop i))) (by omega) hN;rw[T7];by_cases h0:0<=b.result
  ·by_cases h1:b.result<n
   ·simp only[h0,h1,vB,vH,uJ];rw[hins];simp[EY,h0,h1]
   ·simp[h0,h1,EY]
  ·simp[h0,EY]
theorem Xo {N:Nat}(hN:2000000<=N){b:Block}(hb:Bs b)(n:Int){i:Nat}(hi:i<=b.steps.length):JV N b n i []=some (EY n [] (Jn (b.steps.drop i)++[b.result])):=by
 unfold JV;have h1:=Wf b.steps;have h2:=Rk b.steps i;have hb':=hb;unfold Bs at hb';rw[N2]at hb';exact jk hN N b hb (by unfold Bs at hb;omega) n i [] hi (by simp;omega)
theorem mh {s:Step}(ha:s.args.length<=1048576){N i:Nat}(hi:i<=s.args.length)(hN:s.args.length-i<N):∀l:List Int,l.length+(s.args.length-i)<=5048576->EM s N (i:Int) l=some (l++s.args.drop i):=by
 refine BQ s.args.length (λN i=>∀l:List Int,l.length+(s.args.length-i)<=5048576->EM s N (i:Int) l=some (l++s.args.drop i)) ?_ ?_ hi hN
 ·intro f l _;rw[EM,CX];simp
 ·intro f i hi ih l hl;obtain⟨x,hx,_⟩:=BX hi;rw[EM,Cj,Ao hx,uJ];unfold KZ;rw[BU _ _ 8 (by simp;omega) (by simp;omega)];simp only[uJ];rw[wN,ih _ (by simp;omega),drop_cons hx,vP];rfl
def VU (rec:List Int->Block->Int->Option (List Int))(b:Block):Prop:=∀l:List Int,l.length+(O3 b).length<=3000000->rec l b 0=some (l++O3 b)
theorem lR {s:Step}{rec:List Int->Block->Int->Option (List Int)}(hk:s.kids.length<=1048576)(hrec :∀c∈s.kids,VU rec c){N i:Nat}(hi:i<=s.kids.length)(hN:s.kids.length-i<N):∀l:List Int,l.length+(QS (s.kids.drop i)).length<=3000000->EP s rec N (i:Int) l=some (l++QS (s.kids.drop i)):=by
 refine BQ s.kids.length (λN i=>∀l:List Int,l.length+(QS (s.kids.drop i)).length<=3000000->EP s rec N (i:Int) l=some (l++QS (s.kids.drop i))) ?_ ?_ hi hN
 ·intro f l _;rw[EP,CX];simp[QS]
 ·intro f i hi ih l hl;obtain⟨c,hc,hcm⟩:=BX hi;rw[drop_cons hc,QS,uu]at hl;rw[EP,Cj,Ao hc,uJ,hrec c hcm l (by omega),uJ,wN,ih _ (by simp;omega),drop_cons hc,QS,vP]
theorem lG {N:Nat}(hN:2000000<=N){rec:List Int->Block->Int->Option (List Int)}{s:Step}(ha:s.args.length<=1048576)(hk:s.kids.length<=1048576)(hrec :∀c∈s.kids,VU rec c){l:List Int}(hl:l.length+(vs s).length<=3000000):JF N rec l s=some (l++vs s):=by
 rw[oI]at hl⊢;unfold JF;rw[Ns,uJ];cases hc:Oi s.op with
 | true=>simp
 | false=>
  rw[hc]at hl;simp only[uN,uf,uu]at hl⊢;have h1:=mh (s:=s) ha (ue _) (by omega:s.args.length-0<N) l (by omega);have h2:=lR (s:=s) hk hrec (ue _) (by omega:s.kids.length-0<N) (l++s.args) (by rw[vG,uu];omega);rw[zQ,vG]at h1 h2;rw[h1,uJ];rw[h2,vP];rfl
theorem gC {α:Type}{l:List α}{i:Nat}(h:i<=l.length):Sh.sl l (i:Int) (Sh.len l)=some (l.drop i):=by
 unfold Sh.sl;rw[Ah,uX (by omega)];simp
theorem kp {b:Block}{L:List Step}{rec:List Int->Block->Int->Option (List Int)}{M:Nat}(hM:2000000<=M)(hb:Bs b)(hL :∀s∈L,s∈b.steps)(hLl:L.length<=1048576)(hrec :∀s∈b.steps,∀c∈s.kids,VU rec c){N i:Nat}(hi:i<=L.length)(hN:L.length-i<N):∀l:List Int,l.length+(Jn (L.drop i)).length<=3000000->Dl M L rec N (i:Int) l=some (l++Jn (L.drop i)):=by
 refine BQ L.length (λN i=>∀l:List Int,l.length+(Jn (L.drop i)).length<=3000000->Dl M L rec N (i:Int) l=some (l++Jn (L.drop i))) ?_ ?_ hi hN
 ·intro f l _;rw[Dl,CX];simp[Jn]
 ·intro f i hi ih l hl;obtain⟨s,hs,hsm⟩:=BX hi;have hsm:=hL s hsm;rw[drop_cons hs,Jn,uu]at hl;rw[Dl,Cj,Ao hs,uJ,lG hM (cv hb hsm) (Nu hb hsm) (hrec s hsm) (by omega),uJ,wN,ih _ (by simp;omega),drop_cons hs,Jn,vP]
theorem oV {N:Nat}(hN:2000000<=N):∀(m:Nat) (b:Block),Bs b->KF b<m->∀(i:Nat) (l:List Int),i<=b.steps.length->l.length+(Jn (b.steps.drop i)).length+1<=3000000->Fb N m l b i=some (l++(Jn (b.steps.drop i)++[b.result])):=by
 intro m
 induction m with
 | zero=>intro b _ h;omega
 | succ m ih=>
  intro b hb hm i l hi hl;have hbl:=hb.len;rw[Fb];unfold Jb;rw[gC hi,uJ];have key:=kp (L:=b.steps.drop i) hN hb (λs hs=>wC hs) (by simp;omega) (rec:=Fb N m) (λs hs c hc l hl=>by
   have h1:=MG hb hs hc;rw[V4]at hl⊢;have:=ih c h1.1 (by omega) 0 l (ue _) (by simp only[uu,wS]at hl;rw[vG];omega);rwa [zQ,vG]at this) (ue _) (by simp;omega:(b.steps.drop i).length-0<N) l (by rw[vG];omega)
  rw[zQ,vG]at key;rw[key,uJ];unfold KZ;rw[BU _ _ 8 (by simp;omega) (by simp;omega),vP];rfl
theorem mJ {N:Nat}(hN:2000000<=N){b:Block}(hb:Bs b){i:Nat}(hi:i<=b.steps.length):II N b i=some (Lib.compact ((Jn (b.steps.drop i)++[b.result]).mergeSort λx y=>decide (x<=y))):=by
 have h1:=Wf b.steps;have h2:=Rk b.steps i;have hb':=hb;unfold Bs at hb';rw[N2]at hb';unfold II Ms;rw[oV hN N b hb (by unfold Bs at hb;omega) i [] hi (by simp;omega)];simp only[uJ,vh];unfold I8;rw[uX (by simp;omega)];rfl
end RC
namespace RC
open Go
abbrev HD (l:List Int):Prop:=l.Pairwise (·<·)
theorem XB {l:List Int}(h:HD l){i:Nat}{x:Int}(hi:l[i]?=some x):(∀y∈l.take i,y<x)/\∀y∈l.drop (i+1),x<y:=by
 have e:l=l.take i++x::l.drop (i+1):=by rw[<- drop_cons hi,xF]
 rw[e]at h;unfold HD at h;rw[xW,wM]at h;exact⟨λy hy=>h.2.2 y hy x (by simp),h.2.1.1⟩
theorem pw {l:List Int}{v:Int}(hl:l.length<=1048577)(ha:HD l):∀(d i j M:Nat),j-i<=d->d<M->i<=j->j<=l.length->(∀x∈l.take i,x<v)->(∀x∈l.drop j,v<=x)->
  ∃q:Nat,q<=l.length/\BN l v M (i:Int) (j:Int)=some (q:Int)/\(∀x∈l.take q,x<v)/\∀x∈l.drop q,v<=x:=by
 intro d
 induction d with
 | zero=>
  intro i j M h1 h2 h3 h4 h5 h6;obtain⟨M,rfl⟩ :∃m,M=m+1:=⟨M-1,by omega⟩
  have:i=j:=by omega
  subst this;exact⟨i,by omega,by rw[BN,uY (by simp)],h5,h6⟩
 | succ d ih=>
  intro i j M h1 h2 h3 h4 h5 h6;obtain⟨M,rfl⟩ :∃m,M=m+1:=⟨M-1,by omega⟩
  rw[BN];by_cases hij:i<j
  ·obtain⟨x,hx,hxm⟩:=BX (l:=l) (i:=(i+j) / 2) (by omega);obtain⟨t1,t2⟩:=XB ha hx;rw[uX (by simp;omega),jy (by omega),Ao hx,uJ,gR,uJ];by_cases hv:x<v
   ·rw[uX (by simpa using hv),wI,show (((i+j) / 2:Nat):Int)+1=(((i+j) / 2+1:Nat):Int) by omega];refine ih _ _ M (by omega) (by omega) (by omega) h4 (λy hy=>?_) h6;rw[Ep hx]at hy;rcases vJ.1 hy with hy|hy
    ·have:=t1 y hy;omega
    ·simp at hy;omega
   ·rw[uY (by simpa using hv)];refine ih i ((i+j) / 2) M (by omega) (by omega) (by omega) (by omega) h5 λy hy=>?_;rw[drop_cons hx]at hy;rcases uz.1 hy with rfl|hy
    ·omega
    ·have:=t2 y hy;omega
  ·rw[uY (by simp;omega)];have:i=j:=by omega
   subst this;exact⟨i,by omega,rfl,h5,h6⟩
theorem nz {l:List Int}{v:Int}(hl:l.length<=1048577)(ha:HD l){N:Nat}(hN:2000000<=N):∃q:Nat,q<=l.length/\Bz N l v=some ((q:Int),decide (v∈l))/\(v ∉ l->ins l v=l.take q++v::l.drop q):=by
 obtain⟨q,q1,q2,q3,q4⟩:=pw (v:=v) hl ha l.length 0 l.length N (by omega) (by omega) (by omega) (uq _) (by simp) (by simp);refine⟨q,q1,?_,λhv=>?_⟩
 ·unfold Bz;rw[show (0:Int)=((0:Nat):Int) from rfl,Ah,q2,uJ];by_cases hq:q<l.length
  ·obtain⟨x,hx,hxm⟩:=BX hq;rw[uX (by simp;omega),Ao hx,uJ];by_cases hv:x=v
   ·subst hv;simp[hxm]
   ·have hn:v ∉ l:=λh=>by
     rw[<- xF q l]at h;rcases vJ.1 h with h|h
     ·have:=q3 v h;omega
     ·rw[drop_cons hx]at h;rcases uz.1 h with h|h
      ·exact hv h.symm
      ·have h1:=(XB ha hx).2 v h;have h2:=q4 x (by rw[drop_cons hx];simp);omega
    rw[uY (by simpa using hv)];unfold Hn;simp[hn]
  ·have hn:v ∉ l:=λh=>by
    have e:l.take q=l:=wO (by omega);have:=q3 v (by rw[e];exact h);omega
   rw[uY (by simp;omega)];simp[hn]
 ·refine TF (OL v ha) ?_ λx=>?_
  ·have h0:(l.take q++l.drop q).Pairwise (·<·):=by rw[xF];exact ha
   show List.Pairwise (·<·) (l.take q++v::l.drop q);rw[xW]at h0⊢;refine⟨h0.1,?_,λa h1 b h2=>?_⟩
   ·rw[wM];refine⟨λb hb=>?_,h0.2.1⟩;have:=q4 b hb;have:b≠v:=λe=>hv (e▸wC hb);omega
   ·rcases uz.1 h2 with rfl|h2
    ·exact q3 a h1
    ·exact h0.2.2 a h1 b h2
  ·rw[OZ,vJ,uz];constructor
   ·rintro (h|h)
    ·exact .inr (.inl h)
    ·rw[<- xF q l]at h;rcases vJ.1 h with h|h
     ·exact .inl h
     ·exact .inr (.inr h)
   ·rintro (h|h|h)
    ·exact .inr (wK h)
    ·exact .inl h
    ·exact .inr (wC h)
theorem has_eq {l:List Int}{v:Int}(hl:l.length<=1048577)(ha:HD l){N:Nat}(hN:2000000<=N):CU N l v=some (decide (v∈l)):=by
 obtain⟨q,_,h,_⟩:=nz (v:=v) hl ha hN;unfold CU;rw[h];rfl
theorem nm:∀{l:List Int} {v:Int},HD l->v∈l->ins l v=l:=λ{l v} ha hv=>TF (OL v ha) ha λx=>by rw[OZ];exact⟨λh=>h.elim (λe=>e▸hv) id,.inr⟩
theorem oR {l:List Int}{v:Int}(hl:l.length<=1048577)(ha:HD l){N:Nat}(hN:2000000<=N):Dj N l v=some (ins l v):=by
 obtain⟨q,q1,h,h2⟩:=nz (v:=v) hl ha hN;unfold Dj;rw[h,uJ];by_cases hv:v∈l
 ·simp[hv,nm ha hv]
 ·have cl:Cd l=some l:=by
   unfold Cd;rw[BU [] l 8 (by simp;omega) (by simp;omega)];rfl
  simp only[hv,vA,uN,uf];rw[cl,uJ];unfold FV;dsimp only;rw[uX ⟨by omega,by omega,by omega⟩,h2 hv];simp
theorem MX {l:List Int}(L:Nat->Int->List Int->Option (List Int))(p:Int->Bool)(h0 :∀n acc,L (n+1) ((l.length:Nat):Int) acc=some acc)
  (hs :∀n (i:Nat) x acc,l[i]?=some x->acc.length<=i->L (n+1) (i:Int) acc=L n ((i+1:Nat):Int) (if p x=true then acc++[x] else acc)) {N:Nat} (hN:l.length<N):L N 0 []=some (l.filter p):=by
 have key:∀{N i:Nat},i<=l.length->l.length-i<N->∀acc:List Int,acc.length<=i->L N (i:Int) acc=some (acc++(l.drop i).filter p):=by
  intro N i hi hN;refine BQ l.length (λN i=>∀acc:List Int,acc.length<=i->L N (i:Int) acc=some (acc++(l.drop i).filter p)) ?_ ?_ hi hN
  ·intro n acc _;rw[h0];simp
  ·intro n i hi ih acc ha;obtain⟨x,hx,_⟩:=BX hi;rw[hs n i x acc hx ha,drop_cons hx,xY];by_cases hp:p x=true
   ·rw[uX hp,uX hp,ih _ (by simp;omega)];simp
   ·rw[uY hp,uY hp,ih _ (by omega)]
 have:=key (ue _) (by omega:l.length-0<N) [] (by simp);simpa using this
section
variable {N : Nat}
theorem jO {a b:List Int}(ha:a.length<=1000000)(hb:b.length<=1048576)(hN:2000000<=N):NN N a b=some (a.filter λv=>decide (v∈b)):=by
 unfold NN;rw[MX (l:=a) (Ht N a b) (λv=>decide (v∈b)) (λn acc=>by rw[Ht,CX]) (λn i x acc hx hacc=>?_) (by omega)]
 ·rfl
 ·have hi:=(uK.1 hx).1;rw[Ht,Cj,Ao hx,uJ,Hm hb hN,wN,uJ];by_cases h:x∈b
  ·simp only[h,vB,vH];rw[BU _ _ 8 (by simp;omega) (by simp;omega)];rfl
  ·simp only[h,vA,uN,uf,uJ]
theorem mP {a:List Int}{m:Int}(ha:a.length<=1000000)(hN:2000000<=N):OK N a m=some (a.filter λv=>decide (v<m)):=by
 unfold OK;rw[MX (l:=a) (Ii a m) (λv=>decide (v<m)) (λn acc=>by rw[Ii,CX]) (λn i x acc hx hacc=>?_) (by omega)]
 ·rfl
 ·have hi:=(uK.1 hx).1;rw[Ii,Cj,Ao hx,uJ,wN];by_cases h:x<m
  ·simp only[h,vB,vH];rw[BU _ _ 8 (by simp;omega) (by simp;omega)];rfl
  ·simp only[h,vA,uN,uf,uJ]
theorem Xn {a:List Int}{m:Int}(ha:a.length<=1000000)(hN:2000000<=N):Ka N a m=some (a.filter λv=>!decide (v=m)):=by
 unfold Ka;rw[MX (l:=a) (HJ a m) (λv=>!decide (v=m)) (λn acc=>by rw[HJ,CX]) (λn i x acc hx hacc=>?_) (by omega)]
 ·rfl
 ·have hi:=(uK.1 hx).1;rw[HJ,Cj,Ao hx,uJ,wN];by_cases h:x=m
  ·simp only[h,vB,vT,uN,uf,uJ]
  ·simp only[h,vA,wB,vH];rw[BU _ _ 8 (by simp;omega) (by simp;omega)];rfl
theorem Vc {a:List Int}{m:Int}(ha:a.length<=1000000)(hN:2000000<=N):GN N a m=some (a.filter λv=>!decide (v=m)):=by
 unfold GN I3;rw[MX (l:=a) (ED m a) (λv=>!decide (v=m)) (λn acc=>by rw[ED,CX]) (λn i x acc hx hacc=>?_) (by omega)]
 ·rfl
 ·have hi:=(uK.1 hx).1;rw[ED,Cj,Ao hx];unfold IB;simp only[uJ];rw[wN];by_cases h:x=m
  ·simp only[h,vB,vT,uN,uf,uJ]
  ·simp only[h,vA,wB,vH];rw[BU _ _ 8 (by simp;omega) (by simp;omega)];rfl
def KP (U A:List Int)(v:Int):Bool:=decide (v∈U) || decide (v∈A)
variable {U A : List Int} {D : List AP} {G : List Aw} {o s4' : List Int} {ss : List Step}
theorem T8 {v:Int}(hU:U.length<=1048577)(aU:HD U)(hA:A.length<=1000000)(aA:HD A)(hN:2000000<=N):Co N U D G o A s4' ss v=some (KP U A v):=by
 unfold Co KP;rw[has_eq hU aU hN,has_eq (by omega) aA hN,uJ];by_cases h:v∈U<;>simp[h]
theorem iw {a:List Int}(hU:U.length<=1048577)(aU:HD U)(hA:A.length<=1000000)(aA:HD A)(ha:a.length<=1000000)(hN:2000000<=N):Hk N U D G o A s4' ss a=some (a.filter (KP U A)):=by
 unfold Hk;rw[MX (l:=a) (EA N U D G o A s4' ss a) (KP U A) (λn acc=>by rw[EA,CX]) (λn i x acc hx hacc=>?_) (by omega)]
 ·rfl
 ·have hi:=(uK.1 hx).1;rw[EA,Cj,Ao hx,uJ,T8 hU aU hA aA hN,wN,uJ];cases KP U A x with
  | true=>
   simp only[vH];rw[BU _ _ 8 (by simp;omega) (by simp;omega)];rfl
  | false=>simp only[uN,uf,uJ]
theorem iL {K a:List Int}(hK:K.length<=1048577)(aK:HD K)(hU:U.length<=1048577)(aU:HD U)(hA:A.length<=1000000)(aA:HD A)(ha:a.length<=1000000)(hN:2000000<=N):
  GS N K U D G o A s4' ss a=some (a.filter λv=>decide (v∈K) || KP U A v):=by
 unfold GS;rw[MX (l:=a) (EE N K U D G o A s4' ss a) (λv=>decide (v∈K) || KP U A v) (λn acc=>by rw[EE,CX]) (λn i x acc hx hacc=>?_) (by omega)]
 ·rfl
 ·have hi:=(uK.1 hx).1;rw[EE,Cj,Ao hx,uJ];unfold IA;rw[has_eq hK aK hN,T8 hU aU hA aA hN,wN,uJ];by_cases h:x∈K
  ·simp only[h,vB,vH,Bool.true_or,uJ];rw[BU _ _ 8 (by simp;omega) (by simp;omega)];rfl
  ·simp only[h,vA,uN,uf,Bool.false_or,uJ];cases KP U A x with
   | true=>
    simp only[vH];rw[BU _ _ 8 (by simp;omega) (by simp;omega)];rfl
   | false=>simp only[uN,uf,uJ]
def W3 (a b:List Int):List Int:=b.foldl ins a
theorem Z8:∀(b a:List Int) (x:Int),x∈W3 a b↔x∈a∨x∈b
 | [],a,x=>by simp[W3]
 | y::b,a,x=>by
  have:=Z8 b (ins a y) x;unfold W3 at this⊢;rw[xQ,this,OZ,uz];constructor
  ·rintro ((h|h)|h)<;>simp[h]
  ·rintro (h|h|h)<;>simp[h]
theorem gK:∀(b:List Int) {a:List Int},HD a->HD (W3 a b)
 | [],_,h=>h
 | y::b,a,h=>gK b (OL y h)
theorem gD:∀(b a:List Int),(W3 a b).length<=a.length+b.length
 | [],_=>by simp[W3]
 | y::b,a=>by
  have h1:=gD b (ins a y);have h2:=NJ a y;unfold W3 at h1⊢;rw[xQ,vD];omega
theorem union_eq {a b:List Int}(h:a.length+b.length<=1000000)(hN:2000000<=N):Kx N a b=some (W3 a b):=by
 have key:∀{M i:Nat},i<=b.length->b.length-i<M->∀acc:List Int,acc.length+(b.length-i)<=1000000->Hh N b M (i:Int) acc=some (W3 acc (b.drop i)):=by
  intro M i hi hM;refine BQ b.length (λM i=>∀acc:List Int,acc.length+(b.length-i)<=1000000->Hh N b M (i:Int) acc=some (W3 acc (b.drop i))) ?_ ?_ hi hM
  ·intro n acc _;rw[Hh,CX];simp[W3]
  ·intro n i hi ih acc hacc;obtain⟨x,hx,_⟩:=BX hi;have:=NJ acc x;rw[Hh,Cj,Ao hx,uJ,MP (by omega) hN,uJ];rw[wN,ih _ (by omega),drop_cons hx];rfl
 have:=key (ue _) (by omega:b.length-0<N) a (by omega);rw[zQ,vG]at this;unfold Kx;rw[bD (by omega),uJ];rw[this];rfl
theorem JA {l:List Int}(h:HD l)(p:Int->Bool):HD (l.filter p):=List.Pairwise.filter p h
theorem Y2 {o:Int}{l:List Int}(hl:l.length<=1000000)(hN:2000000<=N):JK N l o=some (l.map (GR o)):=by
 unfold JK;rw[T2 (l:=l) (FB l o) (GR o) (λn acc=>by rw[FB,CX]) (λn j c acc hc ha=>?_) (by omega)]
 ·rfl
 ·have hj:=(uK.1 hc).1;rw[FB,Cj,Ao hc,uJ];unfold Gf;simp only[uJ];rw[BU acc _ 72 (by simp;omega) (by simp;omega),uJ];rw[wN];rfl
end
end RC
namespace RC
open Go
def Ng (n:AL)(s:Step)(i:Nat):Bool:=decide (s.op=9)&&(match Sh.get n.AF s.num with|some r=>decide ((i:Int)∈r.Aq)|none=>false)
def Qe (w:List Int)(a:Int):Int:=(Sh.get w a).getD 0
def Pf (n:AL)(s:Step)(w:List Int)(i:Nat)(a:Int):Bool:=bK s.op&&(!decide (Qe w a=0)&&!Ng n s i)
theorem dW {w:List Int}{a x:Int}(h:Sh.get w a=some x):Qe w a=x:=by simp[Qe,h]
section
variable {n : AL} {T : List Int -> Block -> Int} {s : Step} {w : List Int} {N : Nat}
theorem ZK (I:OU n T s w){i:Nat}{a:Int}(h:s.args[i]?=some a):0<=a/\a<(w.length:Int)/\Sh.get w a=some (Qe w a):=by
 obtain⟨l,hA⟩:=I.args;obtain⟨_,h2⟩:=(PB.1 hA).2 i a h;obtain⟨x,hx⟩:=Option.isSome_iff_exists.1 h2;obtain⟨g1,g2,hg,_⟩:=XV hx;exact⟨g1,g2,by rw[dW hg,hg]⟩
theorem VI (I:OU n T s w)(hr :∀r∈n.AF,r.Aq.length<=1048576)(hN:2000000<=N)(i:Nat):KD N n s i=some (Ng n s i):=by
 unfold KD Ng;by_cases h9:s.op=9
 ·obtain⟨r,rm,r1,r2⟩:=I.call h9;simp[h9,r1,Hm (hr r rm) hN]
 ·simp[h9]
theorem mi (I:OU n T s w)(hr :∀r∈n.AF,r.Aq.length<=1048576)(hN:2000000<=N)(i:Nat):(if decide (s.op=9)=true then (Sh.get (CL n).funcs s.num).bind λc37=>(DE N c37.Aq i).bind λq38=>some q38 else some false)=some (Ng n s i):=by
 unfold Ng;by_cases h9:s.op=9
 ·obtain⟨r,rm,r1,r2⟩:=I.call h9;simp[h9,r1,r2,QU (hr r rm) hN]
 ·simp[h9]
theorem aN (I:OU n T s w)(hr :∀r∈n.AF,r.Aq.length<=1048576)(hN:2000000<=N){i:Nat}{a:Int}(h:s.args[i]?=some a):IU N n w s i=some (Pf n s w i a):=by
 obtain⟨_,_,hg⟩:=ZK I h;unfold IU Pf;rw[kq,Ao h];simp only[uJ];cases bK s.op with
 | false=>simp
 | true=>
  simp only[vH,wU];rw[hg];simp only[uJ];by_cases z:Qe w a=0
  ·simp[z]
  ·rw[VI I hr hN];simp[z]
def PG (n:AL)(s:Step)(w:List Int):Nat->List Int->List Int
 | _,[]=>[]
 | i,a::r=>if Pf n s w i a then (i:Int)::PG n s w (i+1) r else PG n s w (i+1) r
def Pq (n:AL)(s:Step)(w:List Int):List Int->Nat->List Int->List Int
 | acc,_,[]=>acc
 | acc,i,a::r=>Pq n s w (if Ng n s i&&!decide (Qe w a=0) then ins acc a else acc) (i+1) r
theorem Yw:∀(i:Nat) (r:List Int),(PG n s w i r).length<=r.length
 | _,[]=>uq _
 | i,a::r=>by
  have:=Yw (i+1) r;unfold PG;split<;>simp<;>omega
theorem Y7:∀(acc:List Int) (i:Nat) (r:List Int),(Pq n s w acc i r).length<=acc.length+r.length
 | _,_,[]=>by simp[Pq]
 | acc,i,a::r=>by
  have h1:=Y7 (if Ng n s i&&!decide (Qe w a=0) then ins acc a else acc) (i+1) r;have h2:=NJ acc a;unfold Pq;rw[vD];split at h1<;>rename_i hc
  ·rw[uX hc];omega
  ·rw[uY hc];omega
theorem Y3:∀{acc:List Int} (i:Nat) (r:List Int),HD acc->HD (Pq n s w acc i r)
 | _,_,[],h=>h
 | acc,i,a::r,h=>by
  unfold Pq;refine Y3 (i+1) r ?_;split
  ·exact OL a h
  ·exact h
theorem aB:∀(acc:List Int) (i:Nat) (r:List Int) (v:Int),v∈Pq n s w acc i r↔v∈acc∨∃j:Nat,r[j]?=some v/\Ng n s (i+j)=true/\Qe w v≠0
 | acc,i,[],v=>by simp[Pq]
 | acc,i,a::r,v=>by
  unfold Pq;rw[aB];have e:(∃j:Nat,(a::r)[j]?=some v/\Ng n s (i+j)=true/\Qe w v≠0)↔(a=v/\Ng n s i=true/\Qe w v≠0)∨∃j:Nat,r[j]?=some v/\Ng n s (i+1+j)=true/\Qe w v≠0:=by
   constructor
   ·rintro⟨j,h1,h2⟩;cases j with
    | zero=>exact .inl ⟨by simpa using h1,h2⟩
    | succ j=>exact .inr ⟨j,by simpa using h1,by rw[show i+1+j=i+(j+1) by omega];exact h2⟩
   ·rintro (⟨h1,h2⟩|⟨j,h1,h2⟩)
    ·exact⟨0,by simp[h1],h2⟩
    ·exact⟨j+1,by simpa using h1,by rw[show i+(j+1)=i+1+j by omega];exact h2⟩
  rw[e];by_cases hc:(Ng n s i&&!decide (Qe w a=0))=true
  ·rw[uX hc,OZ];simp only[uT,vj,uW]at hc;constructor
   ·rintro ((rfl|h)|h)
    ·exact .inr (.inl ⟨rfl,hc⟩)
    ·exact .inl h
    ·exact .inr (.inr h)
   ·rintro (h|⟨rfl,_⟩|h)
    ·exact .inl (.inr h)
    ·exact .inl (.inl rfl)
    ·exact .inr h
  ·rw[uY hc];simp only[uT,vj,uW]at hc;constructor
   ·rintro (h|h)
    ·exact .inl h
    ·exact .inr (.inr h)
   ·rintro (h|⟨rfl,h⟩|h)
    ·exact .inl h
    ·exact absurd h hc
    ·exact .inr h
theorem mL (I:OU n T s w)(hr :∀r∈n.AF,r.Aq.length<=1048576)(hN:2000000<=N):Gn N w (CL n) s=some (PG n s w 0 s.args,Pq n s w [] 0 s.args):=by
 have ha:=I.KK;unfold Gn;rw[lh,uJ];cases hc:bK s.op with
 | false=>
  have h9:¬ s.op=9:=λh=>by rw[h]at hc;simp[bK]at hc
  have e1:∀(i:Nat) (r:List Int),PG n s w i r=[]:=λi r=>by
   induction r generalizing i with
   | nil=>rfl
   | cons a r ih=>unfold PG Pf;simp[hc,ih]
  have e2:∀(i:Nat) (r:List Int),Pq n s w [] i r=[]:=λi r=>by
   induction r generalizing i with
   | nil=>rfl
   | cons a r ih=>unfold Pq Ng;simp[h9,ih]
  simp[e1,e2]
 | true=>
  have key:∀{M i:Nat},i<=s.args.length->s.args.length-i<M->∀lt acc:List Int,HD lt->lt.length<=i->acc.length<=i->Cy N w (CL n) s M lt i acc=some (Pq n s w lt i (s.args.drop i),acc++PG n s w i (s.args.drop i)):=by
   intro M i hi hM;refine BQ s.args.length (λM i=>∀lt acc:List Int,HD lt->lt.length<=i->acc.length<=i->Cy N w (CL n) s M lt i acc=some (Pq n s w lt i (s.args.drop i),acc++PG n s w i (s.args.drop i))) ?_ ?_ hi hM
   ·intro q lt acc _ _ _;rw[Cy,CX];simp[Pq,PG]
   ·intro q i hi ih lt acc hl1 hl2 hl3;obtain⟨a,hai,_⟩:=BX hi;obtain⟨_,_,hg⟩:=ZK I hai;rw[Cy,Cj,Ao hai,uJ,hg,uJ,wN,drop_cons hai,mi I hr hN];unfold Pq PG;by_cases z:Qe w a=0
    ·simp only[z,vB,vH,uJ,vT,Bool.and_false,uN,uf,Pf,wh];rw[ih lt acc hl1 (by omega) (by omega)]
    ·simp only[z,vA,uN,uf,uJ,wB,yC,Pf,hc,wU];cases hla:Ng n s i with
     | true=>
      simp only[vH,vT,uN,uf];rw[oR (by omega) hl1 hN];simp only[uJ];have:=NJ lt a;rw[ih _ _ (OL a hl1) (by omega) (by omega)]
     | false=>
      simp only[uN,uf,wB,vH];rw[BU _ _ 8 (by simp;omega) (by simp;omega)];simp only[uJ];rw[ih _ _ hl1 (by omega) (by simp;omega)];simp
  have:=key (ue _) (by omega:s.args.length-0<N) [] [] (by simp) (by simp) (by simp);rw[zQ,vG,vh]at this;rw[this];simp
def YT (n:AL)(s:Step)(i:Nat)(a:Int):Nat->List Int->Bool
 | _,[]=>false
 | k,b::r=>(!decide (k=i)&&(decide (b=a)&&(decide (i<k) || Ng n s k))) || YT n s i a (k+1) r
theorem fa {i:Nat}{a:Int}:∀(k:Nat) (r:List Int),YT n s i a k r=true↔∃j:Nat,r[j]?=some a/\k+j≠i/\(i<k+j∨Ng n s (k+j)=true)
 | k,[]=>by simp[YT]
 | k,b::r=>by
  unfold YT;rw[xH,fa (k+1) r];simp only[uT,vj,uW,uj,xH];constructor
  ·rintro (⟨h1,rfl,h2⟩|⟨j,h1,h2,h3⟩)
   ·exact⟨0,by simp,by omega,by simpa using h2⟩
   ·exact⟨j+1,by simpa using h1,by omega,by rw[show k+(j+1)=k+1+j by omega];exact h3⟩
  ·rintro⟨j,h1,h2,h3⟩;cases j with
   | zero=>exact .inl ⟨by omega,by simpa using h1,by simpa using h3⟩
   | succ j=>exact .inr ⟨j,by simpa using h1,by omega,by rw[show k+1+j=k+(j+1) by omega];exact h3⟩
theorem re (I:OU n T s w)(hr :∀r∈n.AF,r.Aq.length<=1048576)(hN:2000000<=N){i:Nat}{a:Int}(h:s.args[i]?=some a):IY N n s i=some (YT n s i a 0 s.args):=by
 have ha:=I.KK;have key:∀{M k:Nat},k<=s.args.length->s.args.length-k<M->D2 N n s i M k=some (if YT n s i a k (s.args.drop k)=true then .inl true else .inr ()):=by
  intro M k hk hM;refine BQ s.args.length (λM k=>D2 N n s i M k=some (if YT n s i a k (s.args.drop k)=true then .inl true else .inr ())) ?_ ?_ hk hM
  ·intro q;rw[D2,CX];simp[YT]
  ·intro q k hk ih;obtain⟨b,hb,_⟩:=BX hk;rw[D2,Cj,wN,ih,drop_cons hb,Ao hb,Ao h,VI I hr hN,uJ,YT];have hki:decide ((k:Int)=(i:Int))=decide (k=i):=vX.2 (by omega);have hik:decide ((i:Int)<(k:Int))=decide (i<k):=vX.2 (by omega);rw[hki,hik];by_cases h1:k=i
   ·simp[h1]
   ·by_cases h2:b=a
    ·by_cases h3:i<k
     ·simp[h1,h2,h3]
     ·cases hla:Ng n s k<;>simp[h1,h2,h3]
    ·simp[h1,h2]
 have:=key (ue _) (by omega:s.args.length-0<N);rw[zQ,vG]at this;unfold IY;rw[this];cases YT n s i a 0 s.args<;>simp[Sh.cont]
def az (n:AL)(s:Step)(own lat:List Int)(i:Nat)(a:Int):Bool:=decide (a∈lat) || (!decide (a∈own) || YT n s i a 0 s.args)
variable {own lat : List Int}
theorem cM (I:OU n T s w)(hr :∀r∈n.AF,r.Aq.length<=1048576)(ho:own.length<=1048576)(hl:lat.length<=1048576)(hN:2000000<=N){i:Nat}{a:Int}(h:s.args[i]?=some a):Kb N n s i own lat=some (az n s own lat i a):=by
 unfold Kb az;rw[Ao h,uJ,Hm hl hN,Hm ho hN,re I hr hN h,uJ];by_cases h1:a∈lat
 ·simp[h1]
 ·by_cases h2:a∈own<;>simp[h1,h2]
def PT (n:AL)(s:Step)(w own lat:List Int):Nat->List Int->List Int
 | _,[]=>[]
 | i,a::r=>if Pf n s w i a&&az n s own lat i a then a::PT n s w own lat (i+1) r else PT n s w own lat (i+1) r
def NZ (n:AL)(s:Step)(w own lat:List Int):List Int->Nat->List Int->List Int
 | out,_,[]=>out
 | out,i,a::r=>NZ n s w own lat (if Pf n s w i a&&!az n s own lat i a then out.filter (λv=>!decide (v=a)) else out) (i+1) r
def Qy (n:AL)(s:Step)(mine lat:List Int):List Int->Nat->List Int->List Int
 | acc,_,[]=>acc
 | acc,i,a::r=>Qy n s mine lat (if Ng n s i&&(decide (a∈mine)&&!decide (a∈lat)) then ins acc a else acc) (i+1) r
theorem cX:∀(i:Nat) (r:List Int),(PT n s w own lat i r).length<=r.length
 | _,[]=>uq _
 | i,a::r=>by
  have:=cX (i+1) r;unfold PT;split<;>simp<;>omega
theorem XQ:∀(out:List Int) (i:Nat) (r:List Int),∃p:Int->Bool,NZ n s w own lat out i r=out.filter p
 | out,_,[]=>⟨λ_=>true,by rw[NZ,yJ.2 (λ_ _=>rfl)]⟩
 | out,i,a::r=>by
  unfold NZ;split
  ·obtain⟨p,hp⟩:=XQ (out.filter λv=>!decide (v=a)) (i+1) r;exact⟨_,by rw[hp,xM]⟩
  ·exact XQ out (i+1) r
theorem ew:∀(acc:List Int) (i:Nat) (r:List Int),(Qy n s own lat acc i r).length<=acc.length+r.length
 | _,_,[]=>by simp[Qy]
 | acc,i,a::r=>by
  have h1:=ew (if Ng n s i&&(decide (a∈own)&&!decide (a∈lat)) then ins acc a else acc) (i+1) r;have h2:=NJ acc a;unfold Qy;rw[vD];split at h1<;>rename_i hc
  ·rw[uX hc];omega
  ·rw[uY hc];omega
theorem gZ:∀{acc:List Int} (i:Nat) (r:List Int),HD acc->HD (Qy n s own lat acc i r)
 | _,_,[],h=>h
 | acc,i,a::r,h=>by
  unfold Qy;refine gZ (i+1) r ?_;split
  ·exact OL a h
  ·exact h
theorem fW:∀(acc:List Int) (i:Nat) (r:List Int) (v:Int),v∈Qy n s own lat acc i r↔v∈acc∨(v∈own/\v ∉ lat/\∃j:Nat,r[j]?=some v/\Ng n s (i+j)=true)
 | acc,i,[],v=>by simp[Qy]
 | acc,i,a::r,v=>by
  unfold Qy;rw[fW];have e:(∃j:Nat,(a::r)[j]?=some v/\Ng n s (i+j)=true)↔(a=v/\Ng n s i=true)∨∃j:Nat,r[j]?=some v/\Ng n s (i+1+j)=true:=by
   constructor
   ·rintro⟨j,h1,h2⟩;cases j with
    | zero=>exact .inl ⟨by simpa using h1,h2⟩
    | succ j=>exact .inr ⟨j,by simpa using h1,by rw[show i+1+j=i+(j+1) by omega];exact h2⟩
   ·rintro (⟨h1,h2⟩|⟨j,h1,h2⟩)
    ·exact⟨0,by simp[h1],h2⟩
    ·exact⟨j+1,by simpa using h1,by rw[show i+(j+1)=i+1+j by omega];exact h2⟩
  rw[e];by_cases hc:(Ng n s i&&(decide (a∈own)&&!decide (a∈lat)))=true
  ·rw[uX hc,OZ];simp only[uT,vj,uW,uj]at hc;constructor
   ·rintro ((rfl|h)|⟨h1,h2,h3⟩)
    ·exact .inr ⟨hc.2.1,hc.2.2,.inl ⟨rfl,hc.1⟩⟩
    ·exact .inl h
    ·exact .inr ⟨h1,h2,.inr h3⟩
   ·rintro (h|⟨h1,h2,⟨rfl,_⟩|h3⟩)
    ·exact .inl (.inr h)
    ·exact .inl (.inl rfl)
    ·exact .inr ⟨h1,h2,h3⟩
  ·rw[uY hc];simp only[uT,vj,uW,uj]at hc;constructor
   ·rintro (h|⟨h1,h2,h3⟩)
    ·exact .inl h
    ·exact .inr ⟨h1,h2,.inr h3⟩
   ·rintro (h|⟨h1,h2,⟨rfl,h⟩|h3⟩)
    ·exact .inl h
    ·exact absurd ⟨h,h1,h2⟩ hc
    ·exact .inr ⟨h1,h2,h3⟩
theorem fU (I:OU n T s w)(hr :∀r∈n.AF,r.Aq.length<=1048576)(ho:own.length<=1048576)(hl:lat.length<=1048576)(hN:2000000<=N):HO N n w s own lat=some (PT n s w own lat 0 s.args):=by
 have ha:=I.KK;have key:∀{M i:Nat},i<=s.args.length->s.args.length-i<M->∀acc:List Int,acc.length<=i->Ek N n w s own lat M i acc=some (acc++PT n s w own lat i (s.args.drop i)):=by
  intro M i hi hM;refine BQ s.args.length (λM i=>∀acc:List Int,acc.length<=i->Ek N n w s own lat M i acc=some (acc++PT n s w own lat i (s.args.drop i))) ?_ ?_ hi hM
  ·intro q acc _;rw[Ek,CX];simp[PT]
  ·intro q i hi ih acc hacc;obtain⟨a,hai,_⟩:=BX hi;rw[Ek,Cj,aN I hr hN hai,cM I hr ho hl hN hai,Ao hai,wN,drop_cons hai,uJ,PT];cases hc:Pf n s w i a with
   | false=>
    simp only[uN,uf,uJ,wh];exact ih acc (by omega)
   | true=>
    simp only[vH,uJ,wU];cases hk:az n s own lat i a with
    | false=>
     simp only[uN,uf,uJ];exact ih acc (by omega)
    | true=>
     simp only[vH];rw[BU _ _ 8 (by simp;omega) (by simp;omega)];simp only[uJ];rw[ih _ (by simp;omega)];simp
 have:=key (ue _) (by omega:s.args.length-0<N) [] (by simp);rw[zQ,vG,vh]at this;unfold HO;rw[this];rfl
theorem left_eq (I:OU n T s w)(hr :∀r∈n.AF,r.Aq.length<=1048576)(ho:own.length<=100000)(hl:lat.length<=1048576)(h7:¬ s.op=7)(h8:¬ s.op=8)(hN:2000000<=N):G0 N n w s own lat=some (NZ n s w own lat own 0 s.args):=by
 have ha:=I.KK;have key:∀{M i:Nat},i<=s.args.length->s.args.length-i<M->∀out:List Int,out.length<=100000->FC N n w s own lat M i out=some (NZ n s w own lat out i (s.args.drop i)):=by
  intro M i hi hM;refine BQ s.args.length (λM i=>∀out:List Int,out.length<=100000->FC N n w s own lat M i out=some (NZ n s w own lat out i (s.args.drop i))) ?_ ?_ hi hM
  ·intro q out _;rw[FC,CX];simp[NZ]
  ·intro q i hi ih out hout;obtain⟨a,hai,_⟩:=BX hi;rw[FC,Cj,aN I hr hN hai,cM I hr (by omega) hl hN hai,Ao hai,wN,drop_cons hai];simp only[uJ];rw[NZ,Xn (by omega) hN];have hf:=vr (λv=>!decide (v=a)) out;cases hc:Pf n s w i a with
   | false=>
    simp only[uN,uf,uJ,wh];exact ih out hout
   | true=>
    simp only[vH,uJ,wU];cases hk:az n s own lat i a with
    | true=>
     simp only[vT,uN,uf,uJ];exact ih out hout
    | false=>
     simp only[wB,vH,uJ];exact ih _ (by omega)
 have:=key (ue _) (by omega:s.args.length-0<N) own ho;rw[zQ,vG]at this;unfold G0;simp only[h7,h8,vA,uN,uf,uJ];rw[bD (by omega),uJ];rw[this];rfl
theorem Ub (I:OU n T s w)(hr :∀r∈n.AF,r.Aq.length<=1048576)(ho:own.length<=1048576)(hl:lat.length<=1048576)(hN:2000000<=N):Hv N n s own lat=some (Qy n s own lat [] 0 s.args):=by
 have ha:=I.KK;have key:∀{M i:Nat},i<=s.args.length->s.args.length-i<M->∀acc:List Int,acc.length<=i->E9 N n s own lat M i acc=some (Qy n s own lat acc i (s.args.drop i)):=by
  intro M i hi hM;refine BQ s.args.length (λM i=>∀acc:List Int,acc.length<=i->E9 N n s own lat M i acc=some (Qy n s own lat acc i (s.args.drop i))) ?_ ?_ hi hM
  ·intro q acc _;rw[E9,CX];simp[Qy]
  ·intro q i hi ih acc hacc;obtain⟨a,hai,_⟩:=BX hi;have hin:=NJ acc a;rw[E9,Cj,VI I hr hN,Ao hai,wN,drop_cons hai];simp only[uJ];rw[Hm ho hN,Hm hl hN,MP (by omega) hN,Qy];simp only[uJ];cases Ng n s i with
   | false=>
    simp only[uN,uf,uJ,wh];exact ih acc (by omega)
   | true=>
    by_cases h1:a∈own
    ·by_cases h2:a∈lat
     ·simp only[h1,h2,vB,vH,vT,uN,uf,uJ,Bool.and_false];exact ih acc (by omega)
     ·simp only[h1,h2,vB,vA,vH,wB,uJ,yC];exact ih _ (by omega)
    ·simp only[h1,vA,vH,uN,uf,uJ,wh,Bool.and_false];exact ih acc (by omega)
 have:=key (ue _) (by omega:s.args.length-0<N) [] (by simp);rw[zQ,vG]at this;unfold Hv;rw[this];rfl
theorem Z9 {D mine:List Int}(hD:D.length<=1000)(hm:mine.length<=100000)(hN:2000000<=N):CS N D N 0 mine=some (mine.filter λv=>!decide (v∈D)):=by
 have key:∀{M i:Nat},i<=D.length->D.length-i<M->∀mine:List Int,mine.length<=100000->CS N D M i mine=some (mine.filter λv=>!decide (v∈D.drop i)):=by
  intro M i hi hM;refine BQ D.length (λM i=>∀mine:List Int,mine.length<=100000->CS N D M i mine=some (mine.filter λv=>!decide (v∈D.drop i))) ?_ ?_ hi hM
  ·intro q mine _;rw[CS,CX,xA,yJ.2 (λ_ _=>by simp)]
  ·intro q i hi ih mine hm;obtain⟨a,hai,_⟩:=BX hi;have hf:=vr (λv=>!decide (v=a)) mine;rw[CS,Cj,Ao hai,uJ,Xn (by omega) hN,wN,uJ,ih _ (by omega),xM,drop_cons hai];congr 1;refine wi λv _=>?_;by_cases h1:v=a<;>by_cases h2:v∈D.drop (i+1)<;>simp[h1,h2]
 have:=key (ue _) (by omega:D.length-0<N) mine hm;simpa using this
end
end RC
namespace RC
open Go
theorem jQ (o v:Int):Fx o v=some (GR o v):=rfl
theorem tk (o v:Int):Gf o v=some (GR o v):=rfl
section
variable {n : AL} {T : List Int -> Block -> Int} {s : Step} {w : List Int} {N : Nat} {own lat U A : List Int} {D : List AP} {G : List Aw}
structure Sets (U A:List Int):Prop where
 ul:U.length<=1048577
 ua:HD U
 al:A.length<=1000000
 aa:HD A
theorem kr (I:OU n T s w){i:Nat}{a:Int}(h:s.args[i]?=some a)(hc:Pf n s w i a=true):YT n s i a 0 s.args=(decide (a∈s.args.drop (i+1)) || decide (a∈Pq n s w [] 0 s.args)):=by
 unfold Pf at hc;simp only[uT,vj,uW]at hc;rw[yG,fa,xH,uj,uj,aB];constructor
 ·rintro⟨j,h1,h2,h3⟩;rw[vd]at h2 h3;rcases h3 with h3|h3
  ·refine .inl (vF.2 ⟨j-(i+1),?_⟩);rw[vZ,show i+1+(j-(i+1))=j by omega];exact h1
  ·exact .inr (.inr ⟨j,h1,by rw[vd];exact h3,hc.2.1⟩)
 ·rintro (h1|h1|⟨j,h1,h2,h3⟩)
  ·obtain⟨j,hj⟩:=vF.1 h1;rw[vZ]at hj;exact⟨i+1+j,hj,by omega,.inl (by omega)⟩
  ·cases h1
  ·rw[vd]at h2;refine⟨j,h1,?_,.inr (by rw[vd];exact h2)⟩;rw[vd];rintro rfl;rw[hc.2.2]at h2;cases h2
theorem mF (I:OU n T s w)(S:Sets U A)(hned :∀v:Int,0<=v->v<(w.length:Int)->KP U A v=decide (v∈lat))(hN:2000000<=N):
  ∀(r:List Int) (i j M:Nat) (f:List Int) (l:List Step),s.args.drop i=r->(PG n s w 0 s.args).drop j=PG n s w i r->(PG n s w 0 s.args).length-j<M->j<=(PG n s w 0 s.args).length->HD f->f.length<=100000->l.length+r.length<=100000->(∀v∈r,v∈f↔v∈own)->
   Dv N D G A w U s (PG n s w 0 s.args,Pq n s w [] 0 s.args) M j f l=some (NZ n s w own lat f i r,l++(PT n s w own lat i r).map (GR 14)):=by
 have ha:=I.KK;have hpl:=Yw (n:=n) (s:=s) (w:=w) 0 s.args;have hll:=Y7 (n:=n) (s:=s) (w:=w) [] 0 s.args;have hla:=Y3 (n:=n) (s:=s) (w:=w) (acc:=[]) 0 s.args (by simp);intro r
 induction r with
 | nil=>
  intro i j M f l h1 h2 h3 h4 _ _ _ _;obtain⟨M,rfl⟩ :∃m,M=m+1:=⟨M-1,by omega⟩
  have h5:(PG n s w 0 s.args).length<=j:=by
   rw[PG]at h2;exact List.drop_eq_nil_iff.1 h2
  rw[Dv,uY (by simp[Ah];omega)];simp[NZ,PT]
 | cons a r ih=>
  intro i j M f l h1 h2 h3 h4 hf hfl hl hv;have hi:i<s.args.length:=by
   have:=vI List.length h1;simp only[xZ,vD]at this;omega
  have hai:s.args[i]?=some a:=by
   have:=vI (·[0]?) h1;simpa using this
  have hr:s.args.drop (i+1)=r:=by
   have:=drop_cons hai;rw[h1]at this;exact (yW this).2.symm
  rw[PG]at h2;rw[NZ,PT];cases hc:Pf n s w i a with
  | false=>
   rw[hc]at h2;simp only[uN,uf,wh]at h2⊢;exact ih (i+1) j M f l hr h2 h3 h4 hf hfl (by simp at hl;omega) λv hv'=>hv v (by simp[hv'])
  | true=>
   rw[hc]at h2;simp only[vH,wU]at h2⊢;have hj:(PG n s w 0 s.args)[j]?=some (i:Int):=by
    have:=vI (·[0]?) h2;simpa using this
   have hjr:(PG n s w 0 s.args).drop (j+1)=PG n s w (i+1) r:=by
    have:=drop_cons hj;rw[h2]at this;exact (yW this).2.symm
   have hjl:=(uK.1 hj).1;obtain⟨g0,g1,_⟩:=ZK I hai;obtain⟨M,rfl⟩ :∃m,M=m+1:=⟨M-1,by omega⟩
   rw[Dv,Cj];dsimp only;rw[Ao hj];simp only[uJ];rw[Ao hai];simp only[uJ];rw[T8 S.ul S.ua S.al S.aa hN,has_eq (by omega) hf hN,wN,wN,gC (by omega),hr];simp only[uJ];rw[QU (by rw[<- hr];simp;omega) hN,has_eq (by simp at hll;omega) hla hN];have hk:az n s own lat i a=(decide (a∈lat) || (!decide (a∈own) || (decide (a∈r) || decide (a∈Pq n s w [] 0 s.args)))):=by
    unfold az;rw[kr I hai hc,hr]
   have hcond:((some (KP U A a)).bind λq71=>if q71=true then some true else (some (decide (a∈f))).bind λq73=>if (!q73)=true then some true else (some (decide (a∈r))).bind λq76=>if q76=true then some true else (some (decide (a∈Pq n s w [] 0 s.args))).bind λq78=>some q78)=some (az n s own lat i a):=by
    rw[hk,hned a g0 g1,show decide (a∈f)=decide (a∈own) from vX.2 (hv a (by simp))];by_cases c1:a∈lat
    ·simp[c1]
    ·by_cases c2:a∈own
     ·by_cases c3:a∈r<;>simp[c1,c2,c3]
     ·simp[c1,c2]
   simp only[uJ]at hcond⊢;rw[hcond,uJ];cases hke:az n s own lat i a with
   | true=>
    simp only[vH,vT,uN,uf];rw[jQ];simp only[uJ];rw[BU _ _ 72 (by simp at hl⊢;omega) (by simp at hl⊢;omega)];simp only[uJ];rw[ih (i+1) (j+1) M f _ hr hjr (by omega) (by omega) hf hfl (by simp at hl⊢;omega) λv hv'=>hv v (by simp[hv'])];simp
   | false=>
    simp only[uN,uf,wB,vH];rw[Vc (by omega) hN];simp only[uJ];have hfl2:=vr (λv=>!decide (v=a)) f;rw[hk]at hke;simp only[yE,uW]at hke;rw[ih (i+1) (j+1) M _ l hr hjr (by omega) (by omega) (JA hf _) (by omega) (by simp at hl;omega) λv hv'=>?_];rw[<- hv v (by simp[hv']),wP];have:v≠a:=λe=>hke.2.2.1 (e▸hv');simp[this]
theorem ko (S:Sets U A)(P L:List Int)(hL:L.length<=1000)(hLa:HD L)(hN:2000000<=N):
  ∀(r:List Int) (j M:Nat) (f:List Int) (l:List Step),L.drop j=r->L.length-j<M->j<=L.length->HD f->f.length<=100000->l.length+r.length<=200000->
   Dq N D G A w U (P,L) M j f l=some (f.filter (λv=>!(decide (v∈r)&&!KP U A v)),l++(r.filter λv=>decide (v∈f)&&!KP U A v).map (GR 15)):=by
 intro r
 induction r with
 | nil=>
  intro j M f l h1 h2 h3 _ _ _;obtain⟨M,rfl⟩ :∃m,M=m+1:=⟨M-1,by omega⟩
  have h5:L.length<=j:=List.drop_eq_nil_iff.1 h1;rw[Dq,uY (by simp[Ah];omega)];rw[yJ.2 (λ_ _=>by simp)];simp
 | cons a r ih=>
  intro j M f l h1 h2 h3 hf hfl hl;have hj:L[j]?=some a:=by
   have:=vI (·[0]?) h1;simpa using this
  have hjl:=(uK.1 hj).1;have hr:L.drop (j+1)=r:=by
   have:=drop_cons hj;rw[h1]at this;exact (yW this).2.symm
  have har:a ∉ r:=λh=>by
   have:=(XB hLa hj).2 a (by rw[hr];exact h);omega
  obtain⟨M,rfl⟩ :∃m,M=m+1:=⟨M-1,by omega⟩
  rw[Dq,Cj];dsimp only;rw[Ao hj,uJ,has_eq (by omega) hf hN,wN,uJ,T8 S.ul S.ua S.al S.aa hN,uJ];have hcond:(if decide (a∈f)=true then some (!KP U A a) else some false)=some (decide (a∈f)&&!KP U A a):=by by_cases h:a∈f<;>simp[h]
  rw[hcond,uJ];cases hd:(decide (a∈f)&&!KP U A a) with
  | true=>
   simp only[vH];rw[jQ,uJ,BU _ _ 72 (by simp at hl⊢;omega) (by simp at hl⊢;omega),uJ,Vc (by omega) hN];simp only[uJ];have hfl2:=vr (λv=>!decide (v=a)) f;rw[ih (j+1) M _ _ hr (by omega) (by omega) (JA hf _) (by omega) (by simp at hl⊢;omega)];simp only[uT,uj,vj]at hd;refine vI some (Prod.ext ?_ ?_)
   ·dsimp only;rw[xM];refine wi λv _=>?_;by_cases e:v=a
    ·subst e;simp[hd.2]
    ·simp[e]
   ·dsimp only;rw[xY,uX (by simp[hd]),vK,vP,xx,show (r.filter λv=>decide (v∈f.filter λv=>!decide (v=a))&&!KP U A v)=r.filter λv=>decide (v∈f)&&!KP U A v from wi λv hv=>by
     have:v≠a:=λe=>har (e▸hv);simp[wP,this]]
  | false=>
   simp only[uN,uf,uJ];rw[ih (j+1) M f l hr (by omega) (by omega) hf hfl (by simp at hl;omega)];refine vI some (Prod.ext ?_ ?_)
   ·dsimp only;refine wi λv hv=>?_;by_cases e:v=a
    ·subst e;simp only[hv,vB,wU,Bool.not_eq_false']at hd;simp[hd]
    ·simp[e]
   ·dsimp only;rw[xY,uY (by simp[hd])]
theorem bS (I:OU n T s w)(S:Sets U A)(hr :∀r∈n.AF,r.Aq.length<=1048576)(hk:s.kids=[])(h7:¬ s.op=7)(h8:¬ s.op=8)(h0:s.BF=0)
  (hned :∀v:Int,0<=v->v<(w.length:Int)->KP U A v=decide (v∈lat)) (hl:lat.length<=1048576) (ho:own.length<=5000) (hoa:HD own) (hov :∀v∈own,0<=v/\v<(w.length:Int)/\Qe w v≠0) {ss:List Step} (hss:ss.length<=50000) (hN:2000000<=N) :
  ∃Du own1 Dr,HO N n w s own lat=some Du/\G0 N n w s own lat=some own1/\Hv N n s own1 lat=some Dr/\CS N Dr N 0 own1=some (own1.filter λv=>!decide (v∈Dr))/\
   Fu N n.decls (CL n).funcs own A w ss U s=some (w,own1.filter (λv=>!decide (v∈Dr)),ss++Du.map (GR 14)++[Step.mk s.op s.num 0 s.args []]++Dr.map (GR 15),U)/\
   Du.length<=3/\Dr.length<=3/\(∃p:Int->Bool,own1=own.filter p):=by
 have ha:=I.KK;have hll:=Y7 (n:=n) (s:=s) (w:=w) [] 0 s.args;have hla:=Y3 (n:=n) (s:=s) (w:=w) (acc:=[]) 0 s.args (by simp);have hpl:=Yw (n:=n) (s:=s) (w:=w) 0 s.args;have hdl:=cX (n:=n) (s:=s) (w:=w) (own:=own) (lat:=lat) 0 s.args;obtain⟨p,hp⟩:=XQ (n:=n) (s:=s) (w:=w) (own:=own) (lat:=lat) own 0 s.args;have h1l:=vr p own;rw[<- hp]at h1l;have h1a:HD (NZ n s w own lat own 0 s.args):=by rw[hp];exact JA hoa p
 have hdr:=ew (n:=n) (s:=s) (own:=NZ n s w own lat own 0 s.args) (lat:=lat) [] 0 s.args;have hsub:∀v∈NZ n s w own lat own 0 s.args,v∈own:=λv hv=>by rw[hp]at hv;exact (wP.1 hv).1
 have e1:Qy n s (NZ n s w own lat own 0 s.args) lat [] 0 s.args=(Pq n s w [] 0 s.args).filter λv=>decide (v∈NZ n s w own lat own 0 s.args)&&!KP U A v:=by
  refine TF (gZ 0 s.args (by simp)) (JA hla _) λv=>?_;rw[fW,wP,aB];simp only[uT,uj,vj];constructor
  ·rintro (h|⟨g1,g2,j,g3,g4⟩)
   ·cases h
   ·obtain⟨q0,q1,q2⟩:=hov v (hsub v g1);exact⟨.inr ⟨j,g3,g4,q2⟩,g1,by rw[hned v q0 q1];simpa using g2⟩
  ·rintro⟨h|⟨j,g3,g4,g5⟩,g1,g2⟩
   ·cases h
   ·obtain⟨q0,q1,q2⟩:=hov v (hsub v g1);rw[hned v q0 q1]at g2;exact .inr ⟨g1,by simpa using g2,j,g3,g4⟩
 refine⟨_,_,_,fU I hr (by omega) hl hN,left_eq I hr (by omega) hl h7 h8 hN,Ub I hr (by omega) hl hN,Z9 (by simp at hdr;omega) (by omega) hN,?_,by omega,by simp at hdr;omega,p,hp⟩;unfold Fu;rw[show Ap.mk n.decls (CL n).funcs=CL n from rfl,mL I hr hN,uJ];have c1:=mF (D:=n.decls) (G:=(CL n).funcs) (own:=own) (lat:=lat) I S hned hN s.args 0 0 N own ss rfl (by rw[vG]) (by omega) (by omega) hoa (by omega) (by omega) (λ_ _=>Iff.rfl);rw[zQ]at c1;rw[c1,uJ];unfold Io;rw[mV (by omega)];simp only[uJ];rw[BU _ _ 72 (by simp;omega) (by simp;omega)];simp only[uJ];have c2:=ko (D:=n.decls) (G:=(CL n).funcs) (w:=w) S (PG n s w 0 s.args) (Pq n s w [] 0 s.args) (by simp at hll;omega) hla hN (Pq n s w [] 0 s.args) 0 N (NZ n s w own lat own 0 s.args) (ss++(PT n s w own lat 0 s.args).map (GR 14)++[Step.mk s.op s.num s.BF s.args []]) (by rw[vG]) (by simp at hll;omega) (by omega) h1a (by omega) (by simp at hll⊢;omega);rw[zQ]at c2;rw[c2,uJ,e1,h0];refine vI (λx=>some (w,x,_,U)) (wi λv hv=>?_);simp[wP,hv]
end
end RC
namespace RC
open Go
def E5 (p:Int->Bool):Int->List Int->List Int
 | _,[]=>[]
 | m,t::r=>if !decide (t=0)&&p m then m::E5 p (m+1) r else E5 p (m+1) r
theorem L4 (p:Int->Bool):∀(m:Int) (l:List Int),(E5 p m l).length<=l.length
 | _,[]=>uq _
 | m,t::r=>by
  unfold E5;have:=L4 p (m+1) r;split<;>simp<;>omega
theorem Vz (p:Int->Bool):∀(m:Int) (l:List Int) (x:Int),x∈E5 p m l->m<=x/\∃i t,l[i]?=some t/\x=m+(i:Nat)/\t≠0
 | m,[],_,h=>by simp[E5]at h
 | m,t::r,x,h=>by
  unfold E5 at h;have ih:=Vz p (m+1) r x;split at h
  ·rename_i hc;rcases uz.1 h with rfl|h
   ·simp only[uT,vj,uW]at hc;exact⟨by omega,0,t,by simp,by simp,hc.1⟩
   ·obtain⟨h1,i,t',h2,h3,h4⟩:=ih h;exact⟨by omega,i+1,t',by simpa using h2,by omega,h4⟩
  ·obtain⟨h1,i,t',h2,h3,h4⟩:=ih h;exact⟨by omega,i+1,t',by simpa using h2,by omega,h4⟩
theorem V9 (p:Int->Bool){m:Int}{l:List Int}{x:Int}(h:x∈E5 p m l):m<=x/\x<m+l.length:=by
 obtain⟨h1,i,t,h2,h3,_⟩:=Vz p m l x h;have:=(uK.1 h2).1;omega
theorem Vs (p:Int->Bool):∀(m:Int) (l:List Int),HD (E5 p m l)
 | _,[]=>by simp[E5]
 | m,t::r=>by
  unfold E5;split
  ·rw[HD,wM];exact⟨λx hx=>by have:=(V9 p hx).1;omega,Vs p (m+1) r⟩
  ·exact Vs p (m+1) r
theorem RZ {p q:Int->Bool}:∀(m:Int) (l:List Int),(∀x:Int,m<=x->x<m+l.length->p x=q x)->E5 p m l=E5 q m l
 | _,[],_=>rfl
 | m,t::r,h=>by
  unfold E5;rw[h m (by omega) (by simp only[vD];omega),RZ (m+1) r λx h1 h2=>h x (by omega) (by simp only[vD];omega)]
theorem Nl (p:Int->Bool):∀(m:Int) (l:List Int) (t:Int),E5 p m (l++[t])=E5 p m l++(if !decide (t=0)&&p (m+l.length) then [m+(l.length:Int)] else [])
 | m,[],t=>by simp[E5]
 | m,a::l,t=>by
  rw[xz,E5,E5,Nl p (m+1) l t];have:m+1+(l.length:Int)=m+((a::l).length:Int):=by simp;omega
  rw[this];split<;>simp
section
variable {n : AL} {w own lat U A : List Int} {N : Nat} {D : List AP} {G : List Aw}
theorem sH {K:List Int}(ho:own.length<=5000)(hK:K.length<=1048576)(hl:lat.length<=1048576)(hN:2000000<=N):
  E2 N own lat K N 0 [] []=some (own.filter (λv=>decide (v∈K) || decide (v∈lat)),own.filter (λv=>!(decide (v∈K) || decide (v∈lat)))):=by
 have key:∀{M i:Nat},i<=own.length->own.length-i<M->∀a b:List Int,a.length+b.length<=i->E2 N own lat K M i a b=some (a++(own.drop i).filter (λv=>decide (v∈K) || decide (v∈lat)),b++(own.drop i).filter (λv=>!(decide (v∈K) || decide (v∈lat)))):=by
  intro M i hi hM;refine BQ own.length (λM i=>∀a b:List Int,a.length+b.length<=i->E2 N own lat K M i a b=some (a++(own.drop i).filter (λv=>decide (v∈K) || decide (v∈lat)),b++(own.drop i).filter (λv=>!(decide (v∈K) || decide (v∈lat))))) ?_ ?_ hi hM
  ·intro q a b _;rw[E2,CX];simp
  ·intro q i hi ih a b hab;obtain⟨v,hv,_⟩:=BX hi;rw[E2,Cj,Ao hv,wN,drop_cons hv];simp only[uJ];rw[Hm hK hN,Hm hl hN,BU _ _ 8 (by simp;omega) (by simp;omega),BU _ _ 8 (by simp;omega) (by simp;omega)];simp only[uJ];by_cases h1:v∈K
   ·simp only[h1,vB,vH,uJ];rw[ih _ _ (by simp;omega)];simp[h1]
   ·by_cases h2:v∈lat
    ·simp only[h1,h2,vB,vA,vH,uN,uf,uJ];rw[ih _ _ (by simp;omega)];simp[h1,h2]
    ·simp only[h1,h2,vA,uN,uf,uJ];rw[ih _ _ (by simp;omega)];simp[h1,h2]
 have:=key (ue _) (by omega:own.length-0<N) [] [] (by simp);simpa using this
theorem sq {K fs:List Int}(hw:w.length<=4000)(hf:fs.length<=1000)(hK:K.length<=1048576)(hN:2000000<=N):Ey N w fs K N 0 []=some (E5 (λv=>decide (v∈K)) w.length fs):=by
 have key:∀{M i:Nat},i<=fs.length->fs.length-i<M->Ey N w fs K M i (E5 (λv=>decide (v∈K)) w.length (fs.take i))=some (E5 (λv=>decide (v∈K)) w.length fs):=by
  intro M i hi hM;refine BQ fs.length (λM i=>Ey N w fs K M i (E5 (λv=>decide (v∈K)) w.length (fs.take i))=some (E5 (λv=>decide (v∈K)) w.length fs)) ?_ ?_ hi hM
  ·intro q;rw[Ey,CX,vp]
  ·intro q i hi ih;obtain⟨t,ht,_⟩:=BX hi;have hle:=L4 (λv=>decide (v∈K)) w.length (fs.take i);rw[vt]at hle;rw[Ep ht,Nl,vt,wV (by omega)]at ih;rw[Ey,Cj,Ao ht];simp only[uJ,Ah];rw[wN,wI (n:=(w.length:Int)+(i:Int)),Hm hK hN,uJ];by_cases z:t=0
   ·simp only[z,vB,vT,wh,uN,uf,uJ,vV]at ih⊢;exact ih
   ·by_cases y:((w.length:Int)+(i:Int))∈K
    ·simp only[z,y,vB,vA,wB,wU,vH]at ih⊢;simp only[uJ,vH];rw[BU _ _ 8 (by simp;omega) (by simp;omega)];exact ih
    ·simp only[z,y,vA,wB,wU,uN,uf,vH,vV]at ih⊢;simpa using ih
 have:=key (ue _) (by omega:fs.length-0<N);simpa [E5] using this
theorem mT {K fs o:List Int}(hw:w.length<=4000)(hf:fs.length<=1000)(hK:K.length<=1048577)(aK:HD K)(ho:o.length<=5000)(hox :∀x∈o,x<(w.length:Int))(hN:2000000<=N):
  CM N fs w K N 0 o []=some (o++E5 (λv=>decide (v∈K)) w.length fs,(E5 (λv=>decide (v∈K)) w.length fs).map (GR 14)):=by
 have key:∀{M i:Nat},i<=fs.length->fs.length-i<M->CM N fs w K M i (o++E5 (λv=>decide (v∈K)) w.length (fs.take i)) ((E5 (λv=>decide (v∈K)) w.length (fs.take i)).map (GR 14))=some (o++E5 (λv=>decide (v∈K)) w.length fs,(E5 (λv=>decide (v∈K)) w.length fs).map (GR 14)):=by
  intro M i hi hM;refine BQ fs.length (λM i=>CM N fs w K M i (o++E5 (λv=>decide (v∈K)) w.length (fs.take i)) ((E5 (λv=>decide (v∈K)) w.length (fs.take i)).map (GR 14))=some (o++E5 (λv=>decide (v∈K)) w.length fs,(E5 (λv=>decide (v∈K)) w.length fs).map (GR 14))) ?_ ?_ hi hM
  ·intro q;rw[CM,CX,vp]
  ·intro q i hi ih;obtain⟨t,ht,_⟩:=BX hi;have hle:=L4 (λv=>decide (v∈K)) w.length (fs.take i);have hme:∀x∈E5 (λv=>decide (v∈K)) w.length (fs.take i),x<(w.length:Int)+i:=λx hx=>by have:=(V9 _ hx).2;simp only[vt]at this;omega
   rw[vt]at hle;rw[Ep ht,Nl,vt,wV (by omega)]at ih;rw[CM,Cj,Ao ht];simp only[uJ,Ah];rw[wN,wI (n:=(w.length:Int)+(i:Int)),has_eq hK aK hN,uJ];by_cases z:t=0
   ·simp only[z,vB,vT,wh,uN,uf,uJ,vV]at ih⊢;exact ih
   ·by_cases y:((w.length:Int)+(i:Int))∈K
    ·simp only[z,y,vB,vA,wB,wU,vH]at ih⊢;simp only[uJ,vH];rw[jQ,uJ];rw[BU _ _ 72 (by simp;omega) (by simp;omega),W5 (by simp;omega) (λx hx=>by
      rcases vJ.1 hx with h|h
      ·have:=hox x h;omega
      ·exact hme x h) hN]
     simp only[uJ];rw[vP,<- ih,vx];rfl
    ·simp only[z,y,vA,wB,wU,uN,uf,vH,vV]at ih⊢;simpa using ih
 have:=key (ue _) (by omega:fs.length-0<N);simpa [E5] using this
theorem lq {f:List Int}{l:List Step}(ho:own.length<=5000)(hf:f.length<=1000000)(af:HD f)(hl:l.length<=50000)(hN:2000000<=N):CO N f own N 0 l=some (l++(own.filter λv=>!decide (v∈f)).map (GR 15)):=by
 have key:∀{M i:Nat},i<=own.length->own.length-i<M->∀l:List Step,l.length<=50000+i->CO N f own M i l=some (l++((own.drop i).filter λv=>!decide (v∈f)).map (GR 15)):=by
  intro M i hi hM;refine BQ own.length (λM i=>∀l:List Step,l.length<=50000+i->CO N f own M i l=some (l++((own.drop i).filter λv=>!decide (v∈f)).map (GR 15))) ?_ ?_ hi hM
  ·intro q l _;rw[CO,CX];simp
  ·intro q i hi ih l hl;obtain⟨v,hv,_⟩:=BX hi;rw[CO,Cj,Ao hv,wN,drop_cons hv,uJ,has_eq (by omega) af hN,jQ];simp only[uJ];by_cases h:v∈f
   ·simp only[h,vB,vT,uN,uf,uJ];rw[ih _ (by omega),xY,uY (by simp[h])]
   ·simp only[h,vA,wB,vH];rw[BU _ _ 72 (by simp;omega) (by simp;omega)];simp only[uJ];rw[ih _ (by simp;omega),xY,uX (by simp[h])];simp
 have:=key (ue _) (by omega:own.length-0<N) l (by omega);simpa using this
theorem lE {o:List Int}{ss:List Step}(S:Sets U A)(hw:w.length<=4000)(hN:2000000<=N):DV N D G o A w ss U N 0 []=some (((List.range w.length).map λ(i:Nat)=>(i:Int)).filter (KP U A)):=by
 have hl:((List.range w.length).map λ(i:Nat)=>(i:Int)).length=w.length:=by simp
 rw[MX (l:=(List.range w.length).map λ(i:Nat)=>(i:Int)) (DV N D G o A w ss U) (KP U A) (λn acc=>by rw[DV,uY (by rw[hl];simp[Ah])]) (λn i x acc hx hacc=>?_) (by omega)];have hi:=(uK.1 hx).1;rw[hl]at hi;have hx':x=(i:Int):=by
  rw[uP,wY hi]at hx;simpa using hx.symm
 subst hx';rw[DV,Cj,T8 S.ul S.ua S.al S.aa hN,wN,uJ];cases KP U A i with
 | true=>
  simp only[vH];rw[BU _ _ 8 (by simp;omega) (by simp;omega)];rfl
 | false=>simp only[uN,uf,uJ]
theorem mI (ha:HD lat)(h0 :∀v∈lat,0<=v)(hned :∀v:Int,0<=v->v<(w.length:Int)->KP U A v=decide (v∈lat)):((List.range w.length).map λ(i:Nat)=>(i:Int)).filter (KP U A)=lat.filter λv=>decide (v<(w.length:Int)):=by
 have hr:HD ((List.range w.length).map λ(i:Nat)=>(i:Int)):=by
  rw[HD,List.pairwise_map];exact (List.pairwise_lt_range (n:=w.length)).imp λh=>by omega
 refine TF (JA hr _) (JA ha _) λv=>?_;rw[wP,wP,uw];constructor
 ·rintro⟨⟨i,hi,rfl⟩,h⟩;have hi:=wQ.1 hi;rw[hned _ (by omega) (by omega)]at h;exact⟨by simpa using h,by simpa using hi⟩
 ·rintro⟨h1,h2⟩;have h2:v<(w.length:Int):=by simpa using h2
  have h3:=h0 v h1;refine⟨⟨v.toNat,wQ.2 (by omega),by omega⟩,?_⟩;rw[hned v h3 h2];simpa using h1
end
end RC
namespace RC
open Go
def Pw:Nat->Block->Prop
 | 0,_=>False
 | d+1,b=>b.steps.length<=50000/\∀s∈b.steps,s.args.length<=3/\s.kids.length<=3/\∀k∈s.kids,Pw d k
def ni (d:Nat)(s:Step):Prop:=s.args.length<=3/\s.kids.length<=3/\∀k∈s.kids,Pw d k
theorem XJ:∀{d e:Nat} {b:Block},d<=e->Pw d b->Pw e b
 | 0,_,_,_,h=>h.elim
 | d+1,0,_,h,_=>by omega
 | d+1,e+1,_,h,⟨h1,h2⟩=>⟨h1,λs hs=>⟨(h2 s hs).1,(h2 s hs).2.1,λk hk=>XJ (by omega) ((h2 s hs).2.2 k hk)⟩⟩
theorem PN (d:Nat)(o v:Int):ni d (GR o v):=⟨by simp[GR,Step.args],by simp[GR,Step.kids],by simp[GR,Step.kids]⟩
section
variable {n : AL} {T : List Int -> Block -> Int} {s : Step} {w : List Int} {N : Nat} {own lat U A : List Int}
variable {recS : AL -> List Int -> Block -> List Int -> List Int -> Option Block} {recI : List AP -> List Aw -> List Int -> List Int -> List Int -> List Step -> Block -> Option (Block × List Int × List Int × List Step)}
structure QB (w own aft:List Int):Prop where
 oa:HD own
 ol:own.length<=w.length
 ov :∀v∈own,0<=v/\v<(w.length:Int)/\Qe w v≠0
 aa:HD aft
 al:aft.length<=w.length
 av :∀v∈aft,0<=v/\v<(w.length:Int)
def CB (n:AL)(d:Nat)(recS:AL->List Int->Block->List Int->List Int->Option Block)(recI:List AP->List Aw->List Int->List Int->List Int->List Step->Block->Option (Block×List Int×List Int×List Step))(w own aft:List Int)(b:Block):Prop:=
 ∃B:Block,recS n w b own aft=some B/\B.result=b.result/\B.steps.length<=30000/\Pw d B/\∀ss:List Step,ss.length<=10000->∃q,recI n.decls (CL n).funcs own aft w ss b=some q/\q.1.result=b.result/\q.2.2.2=ss++B.steps
def ou (n:AL)(T:List Int->Block->Int)(d:Nat)(recS:AL->List Int->Block->List Int->List Int->Option Block)(recI:List AP->List Aw->List Int->List Int->List Int->List Step->Block->Option (Block×List Int×List Int×List Step))(w:List Int)(s:Step):Prop:=
 ∀k∈s.kids,∀m:List Int,m.length<=3->(∀x∈m,Dg n.decls x=true)->0<=T (w++m) k->∀own aft:List Int,QB (w++m) own aft->CB n d recS recI (w++m) own aft k
theorem cP {w m:List Int}{v:Int}(h0:0<=v)(h1:v<(w.length:Int)):Qe (w++m) v=Qe w v:=by
 unfold Qe;rw[Nv h0,Nv h0,uU (by omega)]
theorem aE (hN:2000000<=N){b:Block}(hb:Bs b)(m:Int):LV N b m=some (EY m [] (O3 b)):=by
 have h:=Xo hN hb m (ue b.steps.length);unfold LV;rw[zQ,vG,<- V4]at h;rw[h];rfl
theorem TS (hN:2000000<=N){b:Block}(hb:Bs b){i:Nat}(hi:i<=b.steps.length):∃U,II N b i=some U/\HD U/\U.length<=1048577/\∀v,v∈U↔v∈Jn (b.steps.drop i)++[b.result]:=by
 have h1:=Wf b.steps;have h2:=Rk b.steps i;have hz:KF b<=1048576:=hb;rw[N2]at hz;refine⟨_,mJ hN hb hi,eL ?_,?_,λv=>?_⟩
 ·exact (List.pairwise_mergeSort (le:=λx y:Int=>decide (x<=y)) (λa b c h1 h2=>by simp only[uj] at *;omega) (λa b=>by simp only[xH,uj];omega) _).imp λh=>by simpa using h
 ·have:(Lib.compact ((Jn (b.steps.drop i)++[b.result]).mergeSort λx y=>decide (x<=y))).length<=((Jn (b.steps.drop i)++[b.result]).mergeSort λx y=>decide (x<=y)).length:=by
   unfold Lib.compact Lib.compactUpTo;rw[uZ];exact wx (vr _ _) (by simp)
  simp only[List.length_mergeSort,uu,wS]at this;omega
 ·rw[dR,List.mem_mergeSort]
theorem Va {m:Nat}:∀{l:List Int} (a:Nat),HD l->(∀v∈l,(a:Int)<=v/\v<(m:Int))->l.length<=m-a
 | [],_,_,_=>by simp
 | x::r,a,h,hv=>by
  rw[HD,wM]at h;obtain⟨h1,h2⟩:=hv x (by simp);obtain⟨b,rfl⟩ :∃b:Nat,x=b:=⟨x.toNat,by omega⟩
  have:=Va (m:=m) (l:=r) (b+1) h.2 λv hv'=>⟨by have:=h.1 v hv';omega,(hv v (by simp[hv'])).2⟩;simp only[vD];omega
theorem jE (S:Sets U A){d:Nat}(H:ou n T d recS recI w s){k:Block}(hk:k∈s.kids)(hkb:Bs k){m:List Int}(hm:m.length<=3)(ht :∀x∈m,Dg n.decls x=true)(hT:0<=T (w++m) k)(hw:w.length<=3996)
  (hned :∀v:Int,0<=v->v<(w.length:Int)->KP U A v=decide (v∈lat)) (hla:HD lat) (hl0 :∀v∈lat,0<=v) (hll:lat.length<=1000000) (O:QB w own A) {ss:List Step} (hN:2000000<=N) :
  ∃B,LB N recS w own n m k lat=some B/\Pw (d+1) B/\
   ∀{β:Type} (f:Block->Option β),((II N k 0).bind λq36=>(Dk N [w,m]).bind λq39=>(GS N q36 U n.decls (CL n).funcs own A w ss own).bind λq42=>(CM N m w q36 N 0 q42 []).bind λfl=>(CO N fl.1 own N 0 fl.2).bind λl55=>(recI n.decls (CL n).funcs fl.1 (((List.range w.length).map λ(i:Nat)=>(i:Int)).filter (KP U A)) q39 l55 k).bind λq57=>f (Block.mk q57.2.2.2 q57.1.result))=f B:=by
 have hol:=O.ol;obtain⟨K,k1,k2,k3,k4⟩:=TS hN hkb (ue _);rw[zQ]at k1;rw[vG,<- V4]at k4
 let C:=EY ((w++m).length:Int) [] (O3 k)
 have hC:C=EY ((w++m).length:Int) [] (O3 k):=rfl;have hCm:∀v:Int,0<=v->v<((w++m).length:Int)->decide (v∈K)=decide (v∈C):=λv h0 h1=>by
  refine vX.2 ?_;rw[k4,hC,Mg];constructor
  ·exact λh=>.inr ⟨h,h0,h1⟩
  ·rintro (h|h)
   ·cases h
   ·exact h.1
 have hCl:C.length<=1048576:=by
  have h1:=Va (l:=C) (m:=(w++m).length) 0 (T0 _ _ (by simp)) λv hv=>by
   rw[hC,Mg]at hv;rcases hv with h|h
   ·cases h
   ·exact h.2
  simp only[uu]at h1;omega
 have hwm:((w++m).length:Int)=(w.length:Int)+m.length:=by simp
 let mine:=own.filter λv=>decide (v∈C) || decide (v∈lat)
 let drops:=own.filter λv=>!(decide (v∈C) || decide (v∈lat))
 let dups:=E5 (λv=>decide (v∈C)) w.length m
 have hmine:mine=own.filter λv=>decide (v∈C) || decide (v∈lat):=rfl;have hdrops:drops=own.filter λv=>!(decide (v∈C) || decide (v∈lat)):=rfl;have hdups:dups=E5 (λv=>decide (v∈C)) w.length m:=rfl;have l1:=vr (λv=>decide (v∈C) || decide (v∈lat)) own;have l2:=vr (λv=>!(decide (v∈C) || decide (v∈lat))) own;have l3:=L4 (λv=>decide (v∈C)) w.length m;rw[<- hmine]at l1;rw[<- hdrops]at l2;rw[<- hdups]at l3;have hmo:∀v∈mine,v∈own:=λv hv=>(wP.1 hv).1;have hma:HD mine:=JA O.oa _;have hda:HD dups:=Vs _ _ _;have hmd:HD (mine++dups):=by
  rw[HD,xW];refine⟨hma,hda,λa ha b hb=>?_⟩;have:=(O.ov a (hmo a ha)).2.1;have:=(V9 _ hb).1;omega
 let aft:=lat.filter λv=>decide (v<(w.length:Int))
 have haft:aft=lat.filter λv=>decide (v<(w.length:Int)):=rfl;have hae:=mI (w:=w) hla hl0 hned;have O':QB (w++m) (mine++dups) aft:=by
  refine⟨hmd,by simp only[uu];omega,λv hv=>?_,JA hla _,?_,λv hv=>?_⟩
  ·rcases vJ.1 hv with h|h
   ·obtain⟨q0,q1,q2⟩:=O.ov v (hmo v h);exact⟨q0,by omega,by rw[cP q0 q1];exact q2⟩
   ·obtain⟨g1,i,t,g2,g3,g4⟩:=Vz _ _ _ _ h;have gl:=(uK.1 g2).1;refine⟨by omega,by omega,?_⟩;have:Sh.get (w++m) v=some t:=by
     rw[Nv (by omega),ug (by omega),show v.toNat-w.length=i by omega];exact g2
    rw[dW this];exact g4
  ·rw[haft,<- hae];have:=vr (KP U A) ((List.range w.length).map λ(i:Nat)=>(i:Int));simp only[uZ,List.length_range,uu]at this⊢;omega
  ·rw[haft,wP]at hv;have:=hl0 v hv.1;have h2:v<(w.length:Int):=by simpa using hv.2
   exact⟨this,by omega⟩
 obtain⟨B,b1,b2,b3,b4,b5⟩:=H k hk m hm ht hT _ _ O';have hlen:(dups.map (GR 14)++drops.map (GR 15)).length<=10000:=by simp;omega
 refine⟨Block.mk (dups.map (GR 14)++drops.map (GR 15)++B.steps) B.result,?_,⟨?_,λx hx=>?_⟩,λf=>?_⟩
 ·unfold LB;rw[fY (by omega) (by omega)];simp only[uJ,Ah];rw[aE hN hkb,<- hC];simp only[uJ];rw[sH (by omega) hCl (by omega) hN,<- hmine,<- hdrops];simp only[uJ];rw[sq (by omega) (by omega) hCl hN,<- hdups];simp only[uJ];rw[Y2 (by omega) hN,N3 (by omega) hN];simp only[uJ];rw[BU _ _ 72 (by simp;omega) (by simp;omega),BU _ _ 8 (by omega) (by omega),mP hll hN,<- haft];simp only[uJ];rw[b1];simp only[uJ];rw[BU _ _ 72 (by simp;omega) (by simp;omega)];rfl
 ·show (dups.map (GR 14)++drops.map (GR 15)++B.steps).length<=50000;rw[uu];omega
 ·have hx:x∈dups.map (GR 14)++drops.map (GR 15)++B.steps:=hx;rcases vJ.1 hx with h|h
  ·rcases vJ.1 h with h|h
   ·obtain⟨v,_,rfl⟩:=uw.1 h;exact PN d _ _
   ·obtain⟨v,_,rfl⟩:=uw.1 h;exact PN d _ _
  ·cases d with
   | zero=>exact b4.elim
   | succ d=>
    obtain⟨c1,c2,c3⟩:=b4.2 x h;exact⟨c1,c2,λk hk=>XJ (by omega) (c3 k hk)⟩
 ·rw[k1,uJ,Xu (by omega) (by omega) hN,iL k3 k2 S.ul S.ua S.al S.aa (by omega) hN];simp only[uJ];have e1:(own.filter λv=>decide (v∈K) || KP U A v)=mine:=by
   rw[hmine];refine wi λv hv=>?_;obtain⟨q0,q1,_⟩:=O.ov v hv;rw[hCm v q0 (by omega),hned v q0 q1]
  have e2:E5 (λv=>decide (v∈K)) w.length m=dups:=by
   rw[hdups];exact RZ _ _ λx h1 h2=>hCm x (by omega) (by omega)
  rw[e1,mT (by omega) (by omega) k3 k2 (by omega) (λx hx=>(O.ov x (hmo x hx)).2.1) hN,e2];simp only[uJ];rw[lq (by omega) (by simp only[uu];omega) hmd (by simp;omega) hN];simp only[uJ];have e3:(own.filter λv=>!decide (v∈mine++dups))=drops:=by
   rw[hdrops];refine wi λv hv=>?_;have hnd:v ∉ dups:=λh=>by
    have:=(V9 _ h).1;have:=(O.ov v hv).2.1;omega
   have:decide (v∈mine++dups)=(decide (v∈C) || decide (v∈lat)):=by
    rw[yG,uj,vJ,hmine,wP];constructor
    ·rintro (h|h)
     ·exact h.2
     ·exact absurd h hnd
    ·exact λh=>.inl ⟨hv,h⟩
   rw[this]
  rw[e3,hae,<- haft];obtain⟨q,q1,q2,q3⟩:=b5 _ hlen;rw[q1,uJ,q3,q2,b2]
end
end RC
namespace RC
open Go
section
variable {n : AL} {T : List Int -> Block -> Int} {s : Step} {w : List Int} {N : Nat} {own lat U A : List Int}
variable {recS : AL -> List Int -> Block -> List Int -> List Int -> Option Block} {recI : List AP -> List Aw -> List Int -> List Int -> List Int -> List Step -> Block -> Option (Block × List Int × List Int × List Step)}
theorem eo (S:Sets U A){d:Nat}(H:ou n T d recS recI w s){ms:List (List Int)}{cs:List Int}(hl:ms.length=s.kids.length)(h3:s.kids.length<=3)(hms :∀m∈ms,m.length<=3/\∀x∈m,Dg n.decls x=true)
  (hT :∀(i:Nat) m k,ms[i]?=some m->s.kids[i]?=some k->0<=T (w++m) k)
  (hf0 :∀(i:Nat) m,ms[i]?=some m->(if decide (s.op=8)=true then (Sh.get cs i).bind λc=>(CK N n.decls c).bind λq=>some q else some [])=some m)
  (hw:w.length<=3996) (hks :∀k∈s.kids,Bs k) (hned :∀v:Int,0<=v->v<(w.length:Int)->KP U A v=decide (v∈lat)) (hla:HD lat) (hl0 :∀v∈lat,0<=v) (hll:lat.length<=1000000) (O:QB w own A) {ss:List Step} (hN:2000000<=N) :
  ∃out,EV N w own n s lat cs recS N 0 []=some out/\CN N ms (((List.range w.length).map λ(i:Nat)=>(i:Int)).filter (KP U A)) n.decls (CL n).funcs own A w ss U s recI N 0 []=some out/\out.length=s.kids.length/\∀k∈out,Pw (d+1) k:=by
 have key:∀{M i:Nat},i<=s.kids.length->s.kids.length-i<M->∀acc:List Block,acc.length=i->∃out,EV N w own n s lat cs recS M i acc=some (acc++out)/\CN N ms (((List.range w.length).map λ(i:Nat)=>(i:Int)).filter (KP U A)) n.decls (CL n).funcs own A w ss U s recI M i acc=some (acc++out)/\out.length=s.kids.length-i/\∀k∈out,Pw (d+1) k:=by
  intro M i hi hM;refine BQ s.kids.length (λM i=>∀acc:List Block,acc.length=i->∃out,EV N w own n s lat cs recS M i acc=some (acc++out)/\CN N ms (((List.range w.length).map λ(i:Nat)=>(i:Int)).filter (KP U A)) n.decls (CL n).funcs own A w ss U s recI M i acc=some (acc++out)/\out.length=s.kids.length-i/\∀k∈out,Pw (d+1) k) ?_ ?_ hi hM
  ·intro q acc _;refine⟨[],?_,?_,by simp,by simp⟩
   ·rw[EV,CX,vV]
   ·rw[CN,CX,vV]
  ·intro q i hi ih acc hacc;obtain⟨k,hk,hkm⟩:=BX hi;obtain⟨m,hm,hmm⟩:=BX (l:=ms) (i:=i) (by omega);obtain⟨m1,m2⟩:=hms m hmm;have z1:=hks k hkm;obtain⟨B,b1,b2,b3⟩:=jE (ss:=ss) S H hkm z1 m1 m2 (hT i m k hm hk) hw hned hla hl0 hll O hN;obtain⟨out,g1,g2,g3,g4⟩:=ih (acc++[B]) (by simp[hacc]);refine⟨B::out,?_,?_,by simp[g3];omega,λx hx=>?_⟩
   ·rw[EV,Cj,hf0 i m hm,uJ,Ao hk,uJ,b1,uJ,BU _ _ 32 (by simp;omega) (by simp;omega),uJ];rw[wN,g1];simp
   ·rw[CN,Cj,Ao hk];simp only[uJ];rw[Ao hm];simp only[uJ];refine (b3 λB=>(Sh.app acc [B] 32).bind λl58=>CN N ms (((List.range w.length).map λ(i:Nat)=>(i:Int)).filter (KP U A)) n.decls (CL n).funcs own A w ss U s recI q (Sh.w ((i:Int)+1)) l58).trans ?_;rw[BU _ _ 32 (by simp;omega) (by simp;omega),uJ];rw[wN,g2];simp
   ·rcases uz.1 hx with rfl|hx
    ·exact b2
    ·exact g4 x hx
 obtain⟨out,g1,g2,g3,g4⟩:=key (ue _) (by omega:s.kids.length-0<N) [] rfl;exact⟨out,by simpa using g1,by simpa using g2,by simpa using g3,g4⟩
theorem XP (I:OU n T s w)(S:Ji n):s.kids.length<=3:=by
 have hcl:=Pe S.ZV s.num;by_cases h7:s.op=7
 ·have:=(I.tJ h7).1;omega
 ·by_cases h8:s.op=8
  ·have:=(I.tr h8).1;omega
  ·rw[I.dr h7 h8];simp
theorem gV (I:OU n T s w)(S:Ji n)(hN:2000000<=N):∃ms:List (List Int),(if decide (s.op=8)=true then (Cc N (CL n) s.num).bind λq43=>some q43 else some (List.replicate s.kids.length ([]:List Int)))=some ms/\ms.length=s.kids.length/\(∀m∈ms,m.length<=3/\∀x∈m,Dg n.decls x=true)/\
   (∀(i:Nat) m k,ms[i]?=some m->s.kids[i]?=some k->0<=T (w++m) k)/\
   (∀(i:Nat) m,ms[i]?=some m->(if decide (s.op=8)=true then (Sh.get (Fc n.decls s.num) i).bind λc=>(CK N n.decls c).bind λq=>some q else some [])=some m):=by
 by_cases h8:s.op=8
 ·obtain⟨q1,q2⟩:=I.tr h8;refine⟨(Fc n.decls s.num).map (Pb n.decls),?_,by simpa using q1,λm hm=>?_,λi m k hm hk=>?_,λi m hm=>?_⟩
  ·rw[uX (by simpa using h8),TY S hN];rfl
  ·obtain⟨c,hc,rfl⟩:=uw.1 hm;exact (Re S hc hN).2.2
  ·rw[uP,uR]at hm;obtain⟨c,hc,rfl⟩:=hm;exact q2 i c k hc hk
  ·rw[uP,uR]at hm;obtain⟨c,hc,rfl⟩:=hm;rw[uX (by simpa using h8),Ao hc,uJ];rw[(Re S (uL hc) hN).1];rfl
 ·refine⟨List.replicate s.kids.length [],by rw[uY (by simpa using h8)],by simp,λm hm=>?_,λi m k hm hk=>?_,λi m hm=>?_⟩
  ·rw[(xC.1 hm).2];simp
  ·have hm':=(xC.1 (uL hm)).2;subst hm';by_cases h7:s.op=7
   ·rw[vV];exact (I.tJ h7).2 k (uL hk)
   ·rw[I.dr h7 h8]at hk;simp at hk
  ·rw[uY (by simpa using h8),(xC.1 (uL hm)).2]
theorem ee (I:OU n T s w)(SN:Ji n)(S:Sets U A)(hr :∀r∈n.AF,r.Aq.length<=1048576){d:Nat}(H:ou n T d recS recI w s)(h0:s.BF=0)(hw:w.length<=3996)(hks :∀k∈s.kids,Bs k)
  (hned :∀v:Int,0<=v->v<(w.length:Int)->KP U A v=decide (v∈lat)) (hla:HD lat) (hl0 :∀v∈lat,0<=v) (hll:lat.length<=1000000) (O:QB w own A) {ss:List Step} (hss:ss.length<=50000) (hN:2000000<=N) :
  ∃Du s' own1 Dr,HO N n w s own lat=some Du/\Iu N recS w own n s lat=some s'/\G0 N n w s own lat=some own1/\Hv N n s own1 lat=some Dr/\CS N Dr N 0 own1=some (own1.filter λv=>!decide (v∈Dr))/\
   ((if decide (s.op=7)=true then some true else some (decide (s.op=8))).bind λt60=>if t60=true then (HY N recI n.decls (CL n).funcs own A w ss U s).bind λq63=>some (q63.2.1,q63.1,q63.2.2.1,q63.2.2.2) else (Fu N n.decls (CL n).funcs own A w ss U s).bind λq64=>some (q64.2.1,q64.1,q64.2.2.1,q64.2.2.2)) =
    some (own1.filter (λv=>!decide (v∈Dr)),w,ss++Du.map (GR 14)++[s']++Dr.map (GR 15),U)/\
   Du.length<=3/\Dr.length<=3/\ni (d+1) s'/\(∃p:Int->Bool,own1=own.filter p):=by
 have ha:=I.KK;have hol:=O.ol;have hD:=SN.RO;have hnc:=SN.nc;have hk3:=XP I SN;obtain⟨ms,k1,k2,k3,k4,k5⟩:=gV I SN hN;obtain⟨out,o1,o2,o3,o4⟩:=eo (ss:=ss) (cs:=Fc n.decls s.num) S H k2 (XP I SN) k3 k4 k5 hw hks hned hla hl0 hll O hN;have hstep:Iu N recS w own n s lat=some (Step.mk s.op s.num 0 s.args out):=by
  unfold Iu;rw[SD (by omega) (by omega) hN,uJ,o1,uJ];rw[bD (by omega)];rfl
 have hwf:ni (d+1) (Step.mk s.op s.num 0 s.args out):=⟨ha,by have:=XP I SN;show out.length<=3;omega,o4⟩
 by_cases hc:s.op=7∨s.op=8
 ·have hcns:bK s.op=false:=by unfold bK;rcases hc with h|h<;>rw[h]<;>rfl
  have hcos:∀i a,Pf n s w i a=false:=λi a=>by unfold Pf;rw[hcns];rfl
  have hlab:∀i,Ng n s i=false:=λi=>by unfold Ng;rcases hc with h|h<;>rw[h]<;>rfl
  have e1:∀(i:Nat) (r:List Int),PT n s w own lat i r=[]:=λi r=>by
   induction r generalizing i with
   | nil=>rfl
   | cons a r ih=>unfold PT;simp[hcos,ih]
  have e2:∀(m:List Int) (i:Nat) (r:List Int),Qy n s m lat [] i r=[]:=λm i r=>by
   induction r generalizing i with
   | nil=>rfl
   | cons a r ih=>unfold Qy;simp[hlab,ih]
  have l1:=vr (λv=>decide (v∈lat)) own;refine⟨[],_,own.filter (λv=>decide (v∈lat)),[],by rw[fU I hr (by omega) (by omega) hN,e1],hstep,?_,by rw[Ub I hr (by omega) (by omega) hN,e2],Z9 (by simp) (by omega) hN,?_,by simp,by simp,hwf,_,rfl⟩
  ·unfold G0;have:(if decide (s.op=7)=true then some true else some (decide (s.op=8)))=some true:=by rcases hc with h|h<;>simp[h]
   rw[this];simp only[uJ,vH];rw[jO (by omega) (by omega) hN];rfl
  ·have:(if decide (s.op=7)=true then some true else some (decide (s.op=8)))=some true:=by rcases hc with h|h<;>simp[h]
   rw[this];simp only[uJ,vH];unfold HY;rw[lE S (by omega) hN,uJ,Ah,PR _ _ _ (by omega) (by omega),uJ,show Ap.mk n.decls (CL n).funcs=CL n from rfl,k1,uJ,o2];unfold JZ;simp only[uJ];rw[mV (by omega)];simp only[uJ];rw[BU _ _ 72 (by simp;omega) (by simp;omega)];simp only[uJ];rw[iw S.ul S.ua S.al S.aa (by omega) hN];simp only[uJ,wW,vV];have e3:own.filter (KP U A)=(own.filter λv=>decide (v∈lat)).filter λv=>!decide (v∈([]:List Int)):=by
    rw[xM];refine wi λv hv=>?_;obtain⟨q0,q1,_⟩:=O.ov v hv;rw[hned v q0 q1];simp
   show some (own.filter (KP U A),w,ss++[Step.mk s.op s.num s.BF s.args out],U)=_;rw[e3,h0]
 ·have h7:¬ s.op=7:=λh=>hc (.inl h);have h8:¬ s.op=8:=λh=>hc (.inr h);have hk:=I.dr h7 h8;have ho:out=[]:=by rw[hk]at o3;exact vM o3
  rw[ho]at hstep hwf;obtain⟨Du,own1,Dr,g1,g2,g3,g4,g5,g6,g7,g8⟩:=bS I S hr hk h7 h8 h0 hned (by omega) (by omega) O.oa O.ov hss hN;refine⟨Du,_,own1,Dr,g1,hstep,g2,g3,g4,?_,g6,g7,hwf,g8⟩;simp only[h7,h8,vA,uN,uf,uJ];rw[g5];rfl
end
end RC
namespace RC
open Go
section
variable {n : AL} {T : List Int -> Block -> Int} {N : Nat}
variable {recS : AL -> List Int -> Block -> List Int -> List Int -> Option Block} {recI : List AP -> List Aw -> List Int -> List Int -> List Int -> List Step -> Block -> Option (Block × List Int × List Int × List Step)}
theorem gw {b:Block}(hb:Bs b){k:Nat}(hk:k<=b.steps.length){w own aft:List Int}(O:QB w own aft)(hw:w.length<=3996)(hN:2000000<=N):
  ∃U lat,II N b k=some U/\((JV N b (Sh.w ((Sh.len w)+1)) k ([]:List Int)).bind λq46=>Kx N q46 aft)=some lat/\Sets U aft/\
   (∀v:Int,0<=v->v<(w.length:Int)+1->KP U aft v=decide (v∈lat))/\HD lat/\(∀v∈lat,0<=v)/\lat.length<=10000:=by
 obtain⟨U,u1,u2,u3,u4⟩:=TS hN hb hk;have hal:=O.al;have hia:HD (EY ((w.length:Int)+1) [] (Jn (b.steps.drop k)++[b.result])):=T0 _ _ (by simp);have hil:=Va (m:=w.length+1) 0 hia λv hv=>by
  rw[Mg]at hv;rcases hv with h|h
  ·cases h
  ·exact⟨by omega,by omega⟩
 have hul:=gD aft (EY ((w.length:Int)+1) [] (Jn (b.steps.drop k)++[b.result]));refine⟨U,W3 (EY ((w.length:Int)+1) [] (Jn (b.steps.drop k)++[b.result])) aft,u1,?_,⟨u3,u2,by omega,O.aa⟩,λv h0 h1=>?_,gK _ hia,λv hv=>?_,by omega⟩
 ·rw[Ah,wI,Xo hN hb _ hk,uJ];exact union_eq (by omega) hN
 ·unfold KP;have:decide (v∈W3 (EY ((w.length:Int)+1) [] (Jn (b.steps.drop k)++[b.result])) aft)=decide ((v∈Jn (b.steps.drop k)++[b.result])∨v∈aft):=by
   refine vX.2 ?_;rw[Z8,Mg];constructor
   ·rintro ((h|h)|h)
    ·cases h
    ·exact .inl h.1
    ·exact .inr h
   ·rintro (h|h)
    ·exact .inl (.inr ⟨h,h0,h1⟩)
    ·exact .inr h
  rw[this,show decide (v∈U)=decide (v∈Jn (b.steps.drop k)++[b.result]) from vX.2 (u4 v)];by_cases c1:v∈Jn (b.steps.drop k)++[b.result]<;>by_cases c2:v∈aft<;>simp[c1,c2]
 ·rw[Z8,Mg]at hv;rcases hv with (h|h)|h
  ·cases h
  ·exact h.2.1
  ·exact (O.av v h).1
theorem mN {w:List Int}{t:Int}:Qe (w++[t]) (w.length:Int)=t:=by
 unfold Qe;rw[gj];simp
theorem dH (HT:Ss n (Br N) (Bn N) T 601)(S:Ji n)(hlr :∀r∈n.AF,r.Aq.length<=1048576)(hN:2000000<=N){b:Block}(hbi:Lt b)(Mu:Bs b)(hpl:OE b=true)(hnb:E3 b<=600){d:Nat}
  (HK :∀s∈b.steps,∀w:List Int,w.length+4*SW s<=4000->(∀x∈w,Dg n.decls x=true)->ou n T d recS recI w s) {lw aft:List Int} {ss:List Step} (hss:ss.length<=10000) {M i:Nat} (hi:i<=b.steps.length) (hM:b.steps.length-i<M) :
  ∀(w:List Int) (acc:List Step) (own:List Int),w.length+4*Ld (b.steps.drop i)<=4000->(∀x∈w,Dg n.decls x=true)->Bh N n b (Br N) M i w=some (.inr lw)->acc.length+8*Ld (b.steps.drop i)<=8000->QB w own aft->
   ∃out own',DS N n b aft recS M i acc w own=some (acc++out,lw,own')/\CZ N n.decls (CL n).funcs aft b recI M i own w (ss++acc)=some (own',lw,ss++(acc++out))/\
    QB lw own' aft/\acc.length+out.length<=8000/\∀s∈out,ni (d+1) s:=by
 have hsl:=Mu.len;rw[Yj,WR,uS]at hpl;refine BQ b.steps.length (λM i=>∀(w:List Int) (acc:List Step) (own:List Int),w.length+4*Ld (b.steps.drop i)<=4000->(∀x∈w,Dg n.decls x=true)->Bh N n b (Br N) M i w=some (.inr lw)->acc.length+8*Ld (b.steps.drop i)<=8000->QB w own aft->
   ∃out own',DS N n b aft recS M i acc w own=some (acc++out,lw,own')/\CZ N n.decls (CL n).funcs aft b recI M i own w (ss++acc)=some (own',lw,ss++(acc++out))/\
    QB lw own' aft/\acc.length+out.length<=8000/\∀s∈out,ni (d+1) s) ?_ ?_ hi hM
 ·intro q w acc own hw ht hty ha O;rw[Bh,CX]at hty;cases hty;refine⟨[],own,?_,?_,O,by simp;omega,by simp⟩
  ·rw[DS,CX,vV]
  ·rw[CZ,CX,vV]
 ·intro q i hi ih w acc own hw ht hty ha O;obtain⟨s,hs,hsm⟩:=BX hi;have hpls:=hpl s hsm;rw[Yg,kv]at hpls;simp only[uT,vj,uj]at hpls;obtain⟨⟨hctg,hinto⟩,_⟩:=hpls;rw[T6 hs]at hw ha;have hn1:=Zb hsm;have hn2:=N1 b;have hns:=RX s;have hz:=LI hsm;have hbz:KF b<=1048576:=Mu;have hol:=O.ol;have hal:=O.al;have V:SK n s w:=⟨hbi.steps.1 s hsm,by omega,by omega,ht⟩
  have HTs:Ss n (Br N) (Bn N) T (SW s):=λv c a1 a2 a3 a4 a5=>HT v c a1 a2 (by omega) a4 a5;obtain⟨y,t,ok,e1,e2,e3⟩:=ZB (T:=T) (N:=N) HTs V S hN;have f1:Bh N n b (Br N) (q+1) i w=Sh.cont (if decide (y<0)=true then some (Sum.inl (Sum.inl (-1))) else (JP s.op).bind λq33=>if q33=true then (Sh.app w [y] 8).bind λl35=>some (Sum.inr l35) else some (Sum.inr w)) id λl23=>Bh N n b (Br N) q ((i+1:Nat):Int) l23:=by
   rw[Bh,Cj,Ao hs,uJ,e1,wN];rfl
  rw[f1]at hty;cases ok with
  | false=>
   simp only[uN,uf]at e3;simp[e3,Sh.cont]at hty
  | true=>
   simp only[vH,hctg,uN,uf]at e3;obtain⟨e3,rfl,e5,e6,e7⟩:=e3;have e3':¬ t<0:=by omega
   rw[uY (by simpa using e3'),Q8,show (decide (0<=s.op)&&decide (s.op<=11))=true by rw[uT,uj,uj];exact⟨e6,e7⟩]at hty;simp only[uJ,vH]at hty;rw[BU w [t] 8 (by simp;omega) (by simp;omega)]at hty;simp only[uJ,Sh.Kd]at hty;have I:=lO HTs V S hN e6 e7 e2;obtain⟨U,lat,u1,u2,SU,hned,hla,hl0,hll⟩:=gw Mu (k:=i+1) (by omega) O (by omega) hN;obtain⟨Du,s',own1,Dr,g1,g2,g3,g4,g5,g6,g7,g8,g9,p,hp⟩:=ee (recS:=recS) (recI:=recI) (ss:=ss++acc) I S SU hlr (HK s hsm w (by omega) ht) hinto (by omega) (λk hk=>(MG Mu hsm hk).1) (λv h0 h1=>hned v h0 (by omega)) hla hl0 (by omega) O (by simp;omega) hN;have ho2:∃p:Int->Bool,(own1.filter λv=>!decide (v∈Dr))=own.filter p:=⟨_,by rw[hp,xM]⟩
   obtain⟨p2,hp2⟩:=ho2;have hl2:=vr p2 own;have hsub:∀v∈own.filter p2,v∈own:=λv hv=>(wP.1 hv).1;have hlt2:∀v∈own.filter p2,v<(w.length:Int):=λv hv=>(O.ov v (hsub v hv)).2.1;have hnw:=hned (w.length:Int) (by omega) (by omega);have O2:∀c:Bool,(c=true->t≠0)->QB (w++[t]) (own.filter p2++if c then [(w.length:Int)] else []) aft:=λc hc=>by
    refine⟨?_,?_,λv hv=>?_,O.aa,by simp;omega,λv hv=>?_⟩
    ·rw[HD,xW];refine⟨JA O.oa p2,by cases c<;>simp,λa h1 b h2=>?_⟩;cases c with
     | false=>simp at h2
     | true=>simp at h2;subst h2;exact hlt2 a h1
    ·cases c<;>simp<;>omega
    ·have hwl:((w++[t]).length:Int)=(w.length:Int)+1:=by simp
     rcases vJ.1 hv with h|h
     ·obtain⟨q0,q1,q2⟩:=O.ov v (hsub v h);exact⟨q0,by omega,by rw[cP q0 q1];exact q2⟩
     ·cases c with
      | false=>simp at h
      | true=>simp at h;subst h;exact⟨by omega,by omega,by rw[mN];exact hc rfl⟩
    ·obtain⟨q0,q1⟩:=O.av v hv;exact⟨q0,by simp;omega⟩
   let c:Bool:=!decide (t=0)&&decide ((w.length:Int)∈lat)
   let dd:List Step:=if !decide (t=0)&&!decide ((w.length:Int)∈lat) then [GR 15 (w.length:Int)] else []
   have hdd:dd=if !decide (t=0)&&!decide ((w.length:Int)∈lat) then [GR 15 (w.length:Int)] else []:=rfl;have hddl:dd.length<=1:=by rw[hdd];split<;>simp
   obtain⟨out,own',k1,k2,k3,k4,k5⟩:=ih (w++[t]) (acc++(Du.map (GR 14)++[s']++Dr.map (GR 15)++dd)) (own.filter p2++if c then [(w.length:Int)] else []) (by simp;omega) (λx hx=>by
    rcases vJ.1 hx with h|h
    ·exact ht x h
    ·simp only[vQ]at h;rw[h];exact e5) hty (by simp;omega) (O2 c (λh=>by
     simp only[c,uT,vj,uW]at h;exact h.1))
   refine⟨Du.map (GR 14)++[s']++Dr.map (GR 15)++dd++out,own',?_,?_,k3,?_,λx hx=>?_⟩
   ·rw[DS,Cj,Ao hs,wN,uJ,e1,uJ];have u2' :∀{β:Type} (f:List Int->Option β),((JV N b (Sh.w ((Sh.len w)+1)) ((i+1:Nat):Int) ([]:List Int)).bind λq46=>Option.bind (Kx N q46 aft) f)=f lat:=λf=>by
     rw[<- Option.bind_assoc,u2];rfl
    rw[u2',g1];simp only[uJ];rw[N3 (by omega) hN];simp only[uJ];rw[BU acc _ 72 (by simp;omega) (by simp;omega)];simp only[uJ];rw[g2];simp only[uJ];rw[BU (acc++_) _ 72 (by simp;omega) (by simp;omega),g3];simp only[uJ];rw[g4];simp only[uJ];rw[N3 (by omega) hN];simp only[uJ];rw[BU _ (Dr.map (GR 15)) 72 (by simp;omega) (by simp;omega),g5,hp2];simp only[uJ];rw[BU w [t] 8 (by simp;omega) (by simp;omega),Hm (by omega) hN,Ah];simp only[uJ];rw[tk];simp only[uJ];rw[BU (own.filter p2) [(w.length:Int)] 8 (by simp;omega) (by simp;omega),BU _ [GR 15 (w.length:Int)] 72 (by simp;omega) (by simp;omega)];simp only[uJ];have e9:acc++(Du.map (GR 14)++[s']++Dr.map (GR 15)++dd++out)=acc++(Du.map (GR 14)++[s']++Dr.map (GR 15)++dd)++out:=by simp only[vP]
    rw[e9,<- k1];simp only[c,hdd];by_cases z1:t=0
    ·simp[z1,vP]
    ·by_cases z2:(w.length:Int)∈lat<;>simp[z1,z2,vP]
   ·rw[CZ,Cj,Ao hs,wN];simp only[uJ];rw[u1];simp only[uJ];rw[show Ap.mk n.decls (CL n).funcs=CL n from rfl,e2];simp only[uJ];rw[g6,hp2];simp only[uJ];rw[BU w [t] 8 (by simp;omega) (by simp;omega)];simp only[uJ];rw[T8 SU.ul SU.ua SU.al SU.aa hN,Ah,hnw];simp only[uJ];rw[W5 (by omega) hlt2 hN,jQ];simp only[uJ];rw[BU _ [GR 15 (w.length:Int)] 72 (by simp;omega) (by simp;omega)];simp only[uJ];have e9:ss++(acc++(Du.map (GR 14)++[s']++Dr.map (GR 15)++dd++out))=ss++((acc++(Du.map (GR 14)++[s']++Dr.map (GR 15)++dd))++out):=by simp only[vP]
    rw[e9,<- k2];simp only[c,hdd];by_cases z1:t=0
    ·simp[z1,vP]
    ·by_cases z2:(w.length:Int)∈lat<;>simp[z1,z2,vP]
   ·simp only[uu]at k4⊢;omega
   ·rcases vJ.1 hx with h|h
    ·rcases vJ.1 h with h|h
     ·rcases vJ.1 h with h|h
      ·rcases vJ.1 h with h|h
       ·obtain⟨v,_,rfl⟩:=uw.1 h;exact PN _ _ _
       ·simp at h;subst h;exact g9
      ·obtain⟨v,_,rfl⟩:=uw.1 h;exact PN _ _ _
     ·rw[hdd]at h;split at h
      ·simp at h;subst h;exact PN _ _ _
      ·cases h
    ·exact k5 x h
end
end RC
namespace RC
open Go
theorem nV {N:Nat}(hN:2000000<=N):∀(d f:Nat) (b:Block) (left:Int),Pw d b->d<=f->0<=left->left<=600->EF N f b left=some (lf left (E3 b)):=by
 intro d
 induction d with
 | zero=>intro f b left h;exact h.elim
 | succ d ih=>
  intro f b left h hf h0 h1;obtain⟨f,rfl⟩ :∃g,f=g+1:=⟨f-1,by omega⟩
  obtain⟨hl,hs⟩:=h;rw[EF];unfold JL;have:=Xm (b:=b) (rec:=EF N f) hN (by omega) (λs hs'=>by have:=(hs s hs').2.1;omega) (λs hs' c hc l l0 l1=>ih f c l ((hs s hs').2.2 c hc) (by omega) l0 l1) (ue _) (by omega:b.steps.length-0<N) left h0 h1;rw[zQ,vG,<- N1]at this;rw[this];unfold lf;by_cases h3:left-(E3 b:Int)<0
  ·rw[uX h3,uX h3];rfl
  ·rw[uY h3,uY h3];rfl
theorem ly {N:Nat}(hN:2000000<=N):∀(d f:Nat) (b:Block) (n:Int),Pw d b->d<=f->0<=n->n<=600->∃r,Ds N f n b=some r/\Cs n (E3 b) r:=by
 intro d
 induction d with
 | zero=>intro f b n h;exact h.elim
 | succ d ih=>
  intro f b n h hf h0 h1;obtain⟨f,rfl⟩ :∃g,f=g+1:=⟨f-1,by omega⟩
  obtain⟨hl,hs⟩:=h;rw[Ds];unfold Ia;obtain⟨r,e1,e2,e3⟩:=We (b:=b) (rec:=Ds N f) hN (by omega) (λs hs'=>by have:=(hs s hs').2.1;omega) (λs hs' c hc l l0 l1=>ih f c l ((hs s hs').2.2 c hc) (by omega) l0 l1) (ue _) (by omega:b.steps.length-0<N) n h0 h1;rw[zQ]at e1;rw[vG,<- N1]at e2 e3;rw[e1];by_cases h3:n+(E3 b:Int)<=600
  ·rw[e2 h3];exact⟨_,rfl,λ_=>rfl,λh=>absurd h3 h⟩
  ·obtain⟨m,hm⟩:=e3 h3;rw[hm];exact⟨_,rfl,λh=>absurd h h3,λ_=>rfl⟩
theorem ez {N d:Nat}(hN:2000000<=N)(hd:d<=2000){b:Block}(h:Pw d b):IG N b=some (if E3 b<=600 then (E3 b:Int) else -1):=by
 unfold IG MQ;rw[nV hN d N b 600 h (by omega) (by decide) (by decide),uJ];by_cases h:E3 b<=600
 ·have e:lf 600 (E3 b)=600-(E3 b:Int):=by unfold lf;rw[uY (by omega)]
  rw[e,uY (by simp;omega),uX h,wI];congr 1;omega
 ·have e:lf 600 (E3 b)=-1:=by unfold lf;rw[uX (by omega)]
  rw[e,uY h];rfl
theorem gY {N d:Nat}(hN:2000000<=N)(hd:d<=2000){b:Block}(h:Pw d b):IH N b=some (if E3 b<=600 then (E3 b:Int) else -1):=by
 unfold IH Lg;obtain⟨⟨ok,m⟩,e1,e2,e3⟩:=ly hN d N b 0 h (by omega) (by decide) (by decide);rw[e1,uJ];by_cases h:E3 b<=600
 ·cases e2 (by omega);rw[uY (by simp),uX h];congr 1;omega
 ·have:ok=false:=e3 (by omega);subst this;rw[uX (by simp),uY h]
theorem fN:∀(d:Nat) (b:Block),Pw d b->KF b<=8*E3 b
 | 0,_,h=>h.elim
 | d+1,b,h=>by
  rw[N2,N1];have key:∀l:List Step,(∀s∈l,s.args.length<=3/\s.kids.length<=3/\∀k∈s.kids,Pw d k)->l.length+OG l<=8*Ld l:=λl=>by
   induction l with
   | nil=>intro _;simp[OG,Ld]
   | cons s l ih=>
    intro hl;have i1:=ih λx hx=>hl x (by simp[hx]);obtain⟨h1,h2,h3⟩:=hl s (by simp);have kk:∀ks:List Block,(∀k∈ks,Pw d k)->NF ks<=8*Lp ks:=λks=>by
     induction ks with
     | nil=>intro _;simp[NF]
     | cons k ks ih=>
      intro hk;have a1:=ih λx hx=>hk x (by simp[hx]);have a2:=fN d k (hk k (by simp));simp only[NF,Lp];omega
    have i2:=kk s.kids h3;simp only[OG,Ld,vD,O8,RX];omega
  exact key b.steps h.2
section
variable {n : AL} {T : List Int -> Block -> Int} {N : Nat}
variable {recS : AL -> List Int -> Block -> List Int -> List Int -> Option Block} {recI : List AP -> List Aw -> List Int -> List Int -> List Int -> List Step -> Block -> Option (Block × List Int × List Int × List Step)}
theorem qU (HT:Ss n (Br N) (Bn N) T 601)(S:Ji n)(hlr :∀r∈n.AF,r.Aq.length<=1048576)(hN:2000000<=N){b:Block}{v:List Int}(B:BK n b v)(hpl:OE b=true)(hnb:E3 b<=600)
  (hB:Dm N (Br N) n v b=some (T v b)) (hT:0<=T v b) {d:Nat}
  (HK :∀s∈b.steps,∀w:List Int,w.length+4*SW s<=4000->(∀x∈w,Dg n.decls x=true)->ou n T d recS recI w s) {own aft:List Int} (O:QB v own aft) :
  CB n (d+2) (λn w b own aft=>HE N recS n w b own aft) (λD G own aft w ss b=>Fv N recI D G own aft w ss b) v own aft b:=by
 have hvl:v.length<=4000:=by have:=B.len;omega
 have hne:=N1 b;have hol:=O.ol;have hal:=O.al;have ⟨o,h1,_,h3⟩:=WI (T:=T) (b:=b) (v:=v) (N:=N) (R1:=Br N) (R2:=Bn N) (λv c a1 a2 a3 a4 a5=>HT v c a1 a2 (by omega) a4 a5) B S hN;unfold Dm at hB;rw[bD (by omega)]at hB;simp only[uJ]at hB;rw[h1]at hB;cases o with
 | none=>
  simp only[Option.elim_none,Sh.cont]at hB;simp at hB;omega
 | some lw=>
  simp only[wG,Sh.Kd]at hB h1;obtain⟨l1,_⟩:=h3 lw rfl;rw[DD,Ah,wI]at hB;simp only[uJ]at hB;have hr:0<=b.result/\b.result<(lw.length:Int):=by
   refine wL λhr=>?_;have:(decide (0<=b.result)&&decide (b.result<=(lw.length:Int)-1))=false:=by
    rw[ve,uW,uW];omega
   rw[this]at hB;simp at hB;omega
  obtain⟨x,x1,x2⟩:=PZ hr.1 hr.2;have hlen:=B.len;have loop:=λ(ss:List Step) (hss:ss.length<=10000)=>dH (recS:=recS) (recI:=recI) HT S hlr hN B.ay B.size hpl hnb HK (lw:=lw) (aft:=aft) (ss:=ss) hss (ue _) (by have:=B.size.len;omega:b.steps.length-0<N) v [] own (by rw[vG];omega) B.lS h1 (by rw[vG];simp;omega) O;obtain⟨out,own',g1,_,O',g4,g5⟩:=loop [] (by simp);rw[zQ,vh]at g1;have hol':=O'.ol;have hal':=O'.al;simp only[vl,vd]at g4
  let c:Bool:=!decide (x=0)&&(decide (b.result∈aft) || !decide (b.result∈own'))
  let res:List Step:=if c then [GR 14 b.result] else []
  have hres:res=if c then [GR 14 b.result] else []:=rfl;have hrl:res.length<=1:=by rw[hres];split<;>simp
  refine⟨Block.mk (out++res) b.result,?_,rfl,?_,⟨?_,λs hs=>?_⟩,λss hss=>?_⟩
  ·show HE N recS n v b own aft=_;unfold HE;rw[bD (by omega)];simp only[uJ];rw[bD (by omega)];simp only[uJ];rw[g1];simp only[uJ];rw[x1];simp only[uJ];rw[Hm (by omega) hN,Hm (by omega) hN,tk];simp only[uJ];rw[BU _ _ 72 (by simp;omega) (by simp;omega),hres];simp only[c];by_cases c1:x=0
   ·simp[c1]
   ·by_cases c2:b.result∈aft
    ·simp[c1,c2]
    ·by_cases c3:b.result∈own'<;>simp[c1,c2,c3]
  ·show (out++res).length<=30000;rw[uu];omega
  ·show (out++res).length<=50000;rw[uu];omega
  ·have hs:s∈out++res:=hs;rcases vJ.1 hs with h|h
   ·exact g5 s h
   ·rw[hres]at h;split at h
    ·simp at h;subst h;exact PN _ _ _
    ·cases h
  ·obtain⟨out2,own2,f1,f2,_,f4,_⟩:=loop ss hss;rw[zQ,vh]at f1 f2;rw[g1]at f1;simp only[uO,wE,true_and]at f1;obtain⟨rfl,rfl⟩:=f1;refine⟨(Block.mk (ss++(out++res)) b.result,lw,own',ss++(out++res)),?_,rfl,rfl⟩;show Fv N recI n.decls (CL n).funcs own aft v ss b=_;unfold Fv;rw[vV]at f2;rw[f2];simp only[uJ];rw[x1];simp only[uJ];rw[has_eq (by omega) O.aa hN,has_eq (by omega) O'.oa hN,jQ];simp only[uJ];rw[BU _ _ 72 (by simp;omega) (by simp;omega),hres];simp only[c];by_cases c1:x=0
   ·simp[c1]
   ·by_cases c2:b.result∈aft
    ·simp[c1,c2]
    ·by_cases c3:b.result∈own'<;>simp[c1,c2,c3]
end
end RC
