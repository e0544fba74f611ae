import Derived.Test.YtihdgoiebmfapaaGreatGYGAToYGF
set_option linter.all false
namespace RC
open Go
theorem bN {l:List Int}(hl:l.length<=1048576){N:Nat}(hN:2000000<=N):G1 N l l=some true:=by
 have key:∀{N i:Nat},i<=l.length->l.length-i<N->D8 l l N i=some (Sum.inr ()):=by
  intro N i hi hN;refine Bm l.length (λN i=>D8 l l N i=some (Sum.inr ())) ?_ ?_ hi hN
  ·intro n;rw[D8,fr (by simp[AM])]
  ·intro n i hi ih;obtain⟨x,hx,_⟩:=CE hi;rw[D8,fq (by simp[AM];omega),BF hx];simp only[fZ];rw[BP (by omega) (by omega),show ((i:Int)+1)=((i+1:Nat):Int) by omega];simpa using ih
 unfold G1;have:=key (gK _) (by omega:l.length-0<N);rw[lI]at this;simp[this]
theorem cW {ds:List AN}(hl:ds.length<=1048576)(hc :∀d∈ds,dz d<=1048576){N:Nat}(hN:2000000<=N):HW N ds ds=some true:=by
 have inner:∀{k:Nat} {d:AN},ds[k]?=some d->∀{M i:Nat},i<=d.cons.length->d.cons.length-i<M->Dq N (k:Int) ds ds M i=some (Sum.inr ()):=by
  intro k d hd M i hi hM;have hz:=hc d (fc hd);have uH:=hz;unfold dz at uH;refine Bm d.cons.length (λM i=>Dq N (k:Int) ds ds M i=some (Sum.inr ())) ?_ ?_ hi hM
  ·intro n;rw[Dq,BF hd];simp only[fZ];rw[fr (by simp[AM])]
  ·intro n i hi ih;obtain⟨c,hx,hm⟩:=CE hi;have h1:=Kv cz hm;have h3:c.fields.length<=cz c:=by unfold cz;omega
   have h2:c.fields.length<=1048576:=by omega
   rw[Dq,BF hd];simp only[fZ];rw[fq (by simp[AM];omega),BF hx];simp only[fZ];rw[bN h2 hN,BP (by omega) (by omega),show ((i:Int)+1)=((i+1:Nat):Int) by omega];simpa using ih
 have key:∀{M i:Nat},i<=ds.length->ds.length-i<M->Df N ds ds M i=some (Sum.inr ()):=by
  intro M i hi hM;refine Bm ds.length (λM i=>Df N ds ds M i=some (Sum.inr ())) ?_ ?_ hi hM
  ·intro n;rw[Df,fr (by simp[AM])]
  ·intro n i hi ih;obtain⟨d,hx,hm⟩:=CE hi;have hz:=hc d hm;unfold dz at hz;have h2:=inner hx (gK _) (by omega:d.cons.length-0<N);rw[lI]at h2;rw[Df,fq (by simp[AM];omega),BF hx];simp only[fZ,gH,iA,fh,gM];rw[h2,BP (by omega) (by omega),show ((i:Int)+1)=((i+1:Nat):Int) by omega];simpa using ih
 unfold HW;have:=key (gK _) (by omega:ds.length-0<N);rw[lI]at this;simp[this]
theorem bW {N:Nat}(hN:2000000<=N):∀(n:Nat) (e:AG),en e<=n->en e<=1048577->Ez N n e e=some true:=by
 intro n
 induction n with
 | zero=>intro e h;have:=Kf e;omega
 | succ n ih=>
  intro e h hs;have h1:=Ex e;have h2:=Hl e.kids;have key:∀{M i:Nat},i<=e.kids.length->e.kids.length-i<M->DW e e (Ez N n) M i=some (Sum.inr ()):=by
   intro M i hi hM;refine Bm e.kids.length (λM i=>DW e e (Ez N n) M i=some (Sum.inr ())) ?_ ?_ hi hM
   ·intro n;rw[DW,fr (by simp[AM])]
   ·intro m i hi qI;obtain⟨k,hx,hm⟩:=CE hi;have h3:=DY hm;rw[DW,fq (by simp[AM];omega),BF hx];simp only[fZ];rw[ih k (by omega) (by omega),BP (by omega) (by omega),show ((i:Int)+1)=((i+1:Nat):Int) by omega];simpa using qI
  have:=key (gK _) (by omega:e.kids.length-0<N);rw[lI]at this;rw[Ez];unfold IQ;simp[this]
theorem X5 {p:AP}(S:Ed p){N:Nat}(hN:2000000<=N):FR N p p=some true:=by
 have hz:=S.size;unfold Rf at hz;have key:∀{M i:Nat},i<=p.funcs.length->p.funcs.length-i<M->DE N p p M i=some (Sum.inr ()):=by
  intro M i hi hM;refine Bm p.funcs.length (λM i=>DE N p p M i=some (Sum.inr ())) ?_ ?_ hi hM
  ·intro n;rw[DE,fr (by simp[AM])]
  ·intro n i hi ih;obtain⟨f,hx,hm⟩:=CE hi;have h1:=S.fz hm;have h2:=Ex f.body;have:=S.Ih;rw[DE,fq (by simp[AM];omega),BF hx];simp only[fZ];rw[bN h1.1 hN,Kz,bW hN N f.body (by omega) (by omega),BP (by omega) (by omega),show ((i:Int)+1)=((i+1:Nat):Int) by omega];simpa using ih
 unfold FR;have:=S.Ih;have h0:=key (gK _) (by omega:p.funcs.length-0<N);rw[lI]at h0;rw[cW (by omega) (λd hd=>by have:=Kv dz hd;omega) hN];simp[h0]
theorem ZR {p:AP}(S:Ed p){N:Nat}(hN:2000000<=N)(e1:Bn N p=some true)(e2:Eg N p=some true):
  Fw N p=some (.mk p.decls (p.funcs.map kf),true)/\FY N p=some (.mk p.decls (p.funcs.map kf),true):=by
 have K:=Vb S hN e1;have hz:=S.size;unfold Rf at hz;have hd:p.decls.length<=1048576:=by omega
 have uH:∀d∈p.decls,dz d<=1048576:=λd hd=>by have:=Kv dz hd;omega
 unfold Fw FY;rw[e1,e2];simp only[fZ];refine⟨?_,?_⟩
 ·simp only[iA,fh,gM];rw[YI hN S.Ih K];simp only[fZ];rw[Tr hN hd uH S.Ih K];rfl
 ·simp only[iA,fh,gM];rw[VG hN hd uH S.Ih K];rfl
theorem dg (l:List Ad):(l.map kf).map kf=l.map kf:=by
 rw[iP];refine gO λf _=>?_;show Ad.mk f.params f.result (kn (kn f.body))=.mk f.params f.result (kn f.body);rw[dG _ _ (gA _)]
theorem WA {p:AP}(S:Ed p){N:Nat}(hN:2000000<=N)(hv:Bn N p=some true):
  Bn N (.mk p.decls (p.funcs.map kf))=some true/\Eg N (.mk p.decls (p.funcs.map kf))=some true/\Ed (.mk p.decls (p.funcs.map kf)):=by
 obtain⟨SO,T,hT,hfs⟩:=Uk S hN hv;obtain⟨a,b,c,_⟩:=Yj S hN hv hT (g:=λf=>kn f.body) λf hf=>by
  obtain⟨h1,h2,h3,h4,h5,h6⟩:=hfs f hf;have lv:T f.params f.body≠-1:=by rw[h6];have:=(Kc h5).1;omega
  obtain⟨k1,k2⟩:=dp SO hN hT _ f.body f.params (gA _) ⟨by omega,h3,h4⟩ lv;exact⟨jx (Tv _) h1,k2,by rw[k1,h6]⟩
 exact⟨a,b,c⟩
theorem Me {code:List Int}(h8:IP U8 code):GH 2000000 code=some true:=by
 have hN:(2000000:Nat)<=2000000:=gA _;unfold GH;rw[AM];by_cases hl:1048576<(code.length:Int)
 ·rw[fq (by simpa using hl)]
 rw[fr (by simpa using hl)];obtain⟨p,hd,P⟩ :∃p,GA 2000000 code=some p/\PD p:=by
  unfold GA;refine Af.bind (Ua h8.1 (by omega)) λq3 ⟨Bb,hq⟩=>?_;refine Af.bind (Ss Bb hN (by omega) (by omega)) λq5 ⟨P,_,_⟩=>Af.some P
 rw[hd];simp only[fZ];have S:=P.small;obtain⟨v,h1,h2,_⟩:=JZ S hN;cases v with
 | false=>
  have e1:Fw 2000000 p=some (.mk [] [],false):=by unfold Fw;rw[h1];rfl
  have e2:FY 2000000 p=some (.mk [] [],false):=by unfold FY;rw[h2];rfl
  have S0:Ed (.mk [] []):=⟨⟨⟨(by intro d h;cases h),(by simp[AP.decls])⟩,(by intro d h;cases h),(by simp[AP.funcs])⟩,(by simp[Rf,AP.decls,AP.funcs])⟩
  rw[e1,e2];simp only[fZ];rw[X5 S0 hN];simp
 | true=>
  obtain⟨e1,e2⟩:=ZR S hN h1 h2;obtain⟨a,b,c⟩:=WA S hN h1;obtain⟨_,e3⟩:=ZR c hN a b;have K:=Vb S hN h1;rw[e1,e2];simp only[fZ];rw[X5 c hN,e3];simp only[fZ,iA,fh,gM,bne_self_eq_false];have hk:(AP.mk (AP.mk p.decls (p.funcs.map kf)).decls ((AP.mk p.decls (p.funcs.map kf)).funcs.map kf))=.mk p.decls (p.funcs.map kf):=by
   show AP.mk p.decls ((p.funcs.map kf).map kf)=_;rw[dg]
  rw[hk];have key:∀{M i:Nat},i<=p.funcs.length->p.funcs.length-i<M->CY 2000000 p (.mk p.decls (p.funcs.map kf),true) M i=some (Sum.inr ()):=by
   intro M i hi hM;have:=S.Ih;refine Bm p.funcs.length (λM i=>CY 2000000 p (.mk p.decls (p.funcs.map kf),true) M i=some (Sum.inr ())) ?_ ?_ hi hM
   ·intro n;rw[CY,fr (by simp[AM])]
   ·intro n i hi ih;obtain⟨f,hx,hm⟩:=CE hi;have k1:=(K f hm).small;have k2:=Tv f.body;have k3:=Ex f.body;have k4:=Ex (kn f.body);have qx:(p.funcs.map kf)[i]?=some (kf f):=by rw[fg,hx];rfl
    have n1:¬ ((p.funcs.map kf).length:Int)<=(i:Int):=by rw[gI];omega
    rw[CY,fq (by simp[AM];omega)];simp only[AM,show (AP.mk p.decls (p.funcs.map kf)).funcs=p.funcs.map kf from rfl,n1,gF,fh,gM];rw[BF qx,BF hx];simp only[fZ];rw[show (kf f).body=kn f.body from rfl,I4 (by omega) hN,I4 (by omega) hN,fq (by omega),fq k1];simp only[fZ];rw[BP (by omega) (by omega),show ((i:Int)+1)=((i+1:Nat):Int) by omega,fr (by simp;omega)];exact ih
  have h0:=key (gK _) (by have:=S.Ih;omega:p.funcs.length-0<2000000);rw[lI]at h0;rw[h0];simp[X5 c hN]
end RC
