import Derived.Test.YtihdgoiebmfapaaGreatGTYNToTYP
set_option linter.all false
namespace RC
open Go
theorem Zn {f:Int}:∀{l:List AU},(∀g∈l,cse f g.body=0)->LM f l=0
 | [],_=>by simp[LM]
 |g::l,h=>by
  have h2:=Zn (f:=f) λx hx=>h x (qU _ hx);simp only[LM,pd,rU]at h2⊢;rw[h g (by simp)];omega
theorem cX {f:Int}:∀{l:List AU},LM f l=0->∀g∈l,cse f g.body=0
 | [],_,g,h=>by cases h
 |a::l,h,g,hg=>by
  simp only[LM,pd,rU]at h;rcases pL.1 hg with rfl|hg
  .omega
  .exact cX (show LM f l=0 by unfold LM;omega) g hg
theorem RR {p:AJ}{g:AU->AD}{k:Nat}:(Fq p g).funcs[k]?=(p.funcs[k]?).map λf=>AU.mk f.params f.result (g f):=by
 show (p.funcs.map _)[k]?=_;rw[pC]
theorem dC {p:AJ}{g:AU->AD}(h :∀f∈p.funcs,g f=f.body):Fq p g=p:=by
 obtain⟨D,F⟩:=p;show AJ.mk D (F.map _)=_;congr 1;refine (ph λf hf=>?_).trans (qo _);rw[h f hf];rfl
open Classical in
theorem ba {p:AJ}{F:Nat}(P:PO p F){N k:Nat}(hN:2000000<=N)(hs:BM N p=some true)(hv:Bz N p=some true)(h0:0<k)(hk:k<F):
  ∃b,GA N p (k:Int)=some b/\DI N p (k:Int)=some b/\(b=true↔∀c∈MJ p k,¬ Re p F c.toNat k):=by
 obtain⟨b,e1,e2,e3⟩:=Xy P (f:=(k:Int)) hN hs hv;refine⟨b,e1,e2,?_⟩;rw[e3 k rfl hk,GB];simp only[h0,pX,sJ,pH,pQ];exact⟨λh c hc=>h c ((PF P c).2 hc),λh c hc=>h c ((PF P c).1 hc)⟩
theorem lR {p:AJ}{F k:Nat}{fb:AU}(hfb:p.funcs[k]?=some fb){c x:Nat}(h:Re (Fq p (inf p (k:Int) fb)) F c x)(hc :∃d∈MJ p k,Re p F d.toNat c):∃d∈MJ p k,Re p F d.toNat x:=by
 induction h with
 |refl=>exact hc
 |step h1 h2 ih=>
  rename_i j y;obtain⟨d,hd,hr⟩:=ih;unfold MJ at h2;rw[RR]at h2;cases hj:p.funcs[j]? with
  |none=>rw[hj]at h2;cases h2
  |some f=>
   rw[hj]at h2;rcases iQ _ f.body f.params.length (pM _) h2 with h|⟨_,h⟩
   .exact⟨d,hd,.step hr (by unfold MJ;rw[hj];exact h)⟩
   .exact⟨y,by unfold MJ;rw[hfb];exact h,.refl⟩
theorem Yc {p:AJ}(S:Du p){N:Nat}(hN:2000000<=N)(fi:Int):
  (GY N p fi=some (.mk [] [],false)/\F5 N p fi=some (.mk [] [],false))∨
  ∃g:AU->AD,GY N p fi=some (Fq p g,true)/\F5 N p fi=some (Fq p g,true)/\Du (Fq p g)/\BM N p=some true/\BM N (Fq p g)=some true/\Bz N (Fq p g)=some true/\
   DI N p fi=some true/\0<=fi/\fi<(p.funcs.length:Int)/\LM fi (Fq p g).funcs=0/\F5 N (Fq p g) fi=some (Fq p g,true)/\(LM fi p.funcs=0->Fq p g=p):=by
 obtain⟨hd,hz⟩:=VG S;rcases af S hN hd hz fi with h|⟨fb,h1,h2,h3,e1,e2,m2,w1,w2⟩
 .exact .inl h
 by_cases yH:(p.funcs.all λf=>decide (en (inf p fi fb f)<=30))=true
 case neg=>
  unfold wB at w1 w2;rw[pK yH]at w1 w2;exact .inl ⟨w1,w2⟩
 have yH:∀f∈p.funcs,en (inf p fi fb f)<=30:=λf hf=>by simpa using pH.1 yH f hf
 rw[dk yH]at w1 w2;obtain⟨SO,T,hT,hfs⟩:=TM S hN e1;have hfbm:fb∈p.funcs:=oz (Sh.get_some h1).2.1;have hV:∀f∈p.funcs,VX p f.body f.params:=λf hf=>by
  obtain⟨h1,h2,h3,h4,h5,h6⟩:=hfs f hf;exact⟨by omega,h3,h4⟩
 have uu:∀f∈p.funcs,f.result≠-1:=λf hf=>by
  have:=(LL (hfs f hf).2.2.2.2.1).1;omega
 obtain⟨a1,a2,c,_⟩:=eP S hN e1 hT (g:=inf p fi fb) λf hf=>by
  obtain⟨q1,q2,q3,q4,q5,q6⟩:=hfs f hf;obtain⟨r1,r2,r3,r4,r5,r6⟩:=hfs fb hfbm;have:=mC SO hN hT h1 (hV fb hfbm) r1 r2 r6 (uu fb hfbm) (en f.body) f.body f.params (pM _) q1 (hV f hf) (by omega) (yH f hf) (by rw[q6];exact uu f hf);exact⟨yH f hf,this.2,by unfold inf;rw[this.1,q6]⟩
 obtain⟨k,rfl⟩:=pc (by omega:0<=fi);have hfk:p.funcs[k]?=some fb:=by have:=(Sh.get_some h1).2.1;rwa [qQ]at this
 have P:=VI S hN e1;obtain⟨b,b1,b2,b3⟩:=ba P (k:=k) hN e1 e2 (by omega) (by omega);rw[m2]at b2;cases b2;have nore:=b3.1 rfl;have hself:cse (k:Int) fb.body=0:=by
  rcases rK (cse (k:Int) fb.body) with h|h
  .exact h
  .have hm:(k:Int)∈MJ p k:=by unfold MJ;rw[hfk];exact ZQ _ h
   have:=nore _ hm;rw[qQ]at this;exact absurd .refl this
 have hout:∀f∈(Fq p (inf p (k:Int) fb)).funcs,cse (k:Int) f.body=0:=λf hf=>by
  obtain⟨f0,h0,rfl⟩:=pS.1 (show f∈p.funcs.map _ from hf);exact jl hself _ f0.body f0.params.length (pM _)
 have hlen:(Fq p (inf p (k:Int) fb)).funcs.length=p.funcs.length:=by show (p.funcs.map _).length=_;rw[pR]
 have uF:Sh.get (Fq p (inf p (k:Int) fb)).funcs (k:Int)=some (.mk fb.params fb.result fb.body):=Ax (by rw[RR,hfk];show some (AU.mk fb.params fb.result (inf p (k:Int) fb fb))=_;rw[show inf p (k:Int) fb fb=fb.body from Wm _ fb.body _ (pM _) hself]);have P2:=VI c hN a1;rw[hlen]at P2;obtain⟨b',d1,d2,d3⟩:=ba P2 (k:=k) hN a1 a2 (by omega) (by omega);have vG:b'=true:=d3.2 λx hx hr=>by
  have hx2:x∈MJ p k:=by
   unfold MJ at hx⊢;rw[RR,hfk]at hx;rw[hfk];have hx:x∈HZ (inf p (k:Int) fb fb):=hx;rwa [show inf p (k:Int) fb fb=fb.body from Wm _ fb.body _ (pM _) hself]at hx
  obtain⟨d,g1,g2⟩:=lR hfk hr ⟨x,hx2,.refl⟩;exact nore d g1 g2
 subst vG;have m3:Dk N (Fq p (inf p (k:Int) fb)) (k:Int)=some true:=by
  unfold GA at d1;rw[a1]at d1;simp only[ov,pt]at d1;cases h:Dk N (Fq p (inf p (k:Int) fb)) (k:Int) with
  |none=>rw[h]at d1;simp at d1
  |some x=>rw[h]at d1;simpa using d1
 obtain⟨_,w3,_⟩:=SH c hN (VG c).1 (VG c).2 uF a1 m3 d2;have xB:∀f∈(Fq p (inf p (k:Int) fb)).funcs,inf (Fq p (inf p (k:Int) fb)) (k:Int) (.mk fb.params fb.result fb.body) f=f.body:=λf hf=>Wm _ f.body _ (pM _) (hout f hf);rw[dk (λf hf=>by
  rw[xB f hf];obtain⟨f0,h0,rfl⟩:=pS.1 (show f∈p.funcs.map _ from hf);exact yH f0 h0),dC xB]at w3
 exact .inr ⟨_,w1,w2,c,e1,a1,a2,m2,by omega,h3,Zn hout,w3,λh0=>dC λf hf=>Wm _ f.body _ (pM _) (cX h0 f hf)⟩
theorem WZ {code:List Int}(h8:Iz U8 code)(hl:code.length<=1048576):∃q,IY 2000000 code=some q/\Du q.1:=by
 obtain⟨q,hd,P,_,_⟩:=SX h8.1 (by omega) (pM 2000000);unfold IY;rw[hd];exact⟨_,rfl,P.small⟩
theorem Wj {code:List Int}(h8:Iz U8 code):LK 2000000 code=some true:=by
 have hN:(2000000:Nat)<=2000000:=pM _;unfold LK;rw[AI];by_cases hl:1048576<(code.length:Int)
 .rw[pJ (by simpa using hl)]
 rw[pK (by simpa using hl)];obtain⟨⟨p,f⟩,hd,S⟩:=WZ h8 (by omega);have S:Du p:=S;rw[hd];simp only[ov];rcases Yc S hN f with ⟨e1,e2⟩|⟨g,e1,e2,c,v0,v1,v2,m,f0,f1,hc,_⟩
 .rw[e1,e2];simp[kP eh hN]
 .rw[e1,e2];have hlen:(Fq p g).funcs.length=p.funcs.length:=by show (p.funcs.map _).length=_;rw[pR]
  have key:∀{M i:Nat},i<=p.funcs.length->p.funcs.length-i<M->Ey 2000000 (p,f) (Fq p g,true) M i=some (Sum.inr ()):=by
   intro M i hi hM;have:=S.JL;refine BQ p.funcs.length (λM i=>Ey 2000000 (p,f) (Fq p g,true) M i=some (Sum.inr ())) ?_ ?_ hi hM
   .intro n;rw[Ey,pK (by simp[AI])]
   .intro n i hi ih;obtain⟨x,hx,hm⟩:=Bh hi;have n1:¬ (p.funcs.length:Int)<=(i:Int):=by omega
    rw[Ey,pJ (by simp[AI];omega)];simp only[AI,hlen,n1,pa,pF,pV];rw[Ax (show (Fq p g).funcs[i]?=some (AU.mk x.params x.result (g x)) by rw[RR,hx];rfl),Ax hx];simp only[ov];rw[show (AU.mk x.params x.result (g x)).params=x.params from rfl,du (S.fz hm).1 hN,BE (by omega) (by omega),show ((i:Int)+1)=((i+1:Nat):Int) by omega];simpa using ih
  have h0:=key (pT _) (by have:=S.JL;omega:p.funcs.length-0<2000000);rw[tl]at h0;obtain⟨n,_,n2,_,n4⟩:=Wh c (f:=f) hN;have n5:=n4 v1 ⟨f0,by rw[hlen];exact f1⟩;rw[hc]at n5;subst n5;simp only[ov];rw[kP c hN];simp only[ov,qD,pF,pV,bne_self_eq_false];rw[h0];simp[Sh.cont,v2,n2,m]
end RC
