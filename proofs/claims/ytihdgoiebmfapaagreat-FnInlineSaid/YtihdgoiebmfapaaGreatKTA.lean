import Derived.Test.YtihdgoiebmfapaaGreatGTYAToYGF
set_option linter.all false
namespace RC
open Go
theorem du {l:List Int}(hl:l.length<=1048576){N:Nat}(hN:2000000<=N):HE N l l=some true:=by
 have key:∀{N i:Nat},i<=l.length->l.length-i<N->Ec l l N i=some (Sum.inr ()):=by
  intro N i hi hN;refine BQ l.length (λN i=>Ec l l N i=some (Sum.inr ())) ?_ ?_ hi hN
  .intro n;rw[Ec,pK (by simp[AI])]
  .intro n i hi ih;obtain⟨x,hx,_⟩:=Bh hi;rw[Ec,pJ (by simp[AI];omega),Ax hx];simp only[ov];rw[BE (by omega) (by omega),show ((i:Int)+1)=((i+1:Nat):Int) by omega];simpa using ih
 unfold HE;have:=key (pT _) (by omega:l.length-0<N);rw[tl]at this;simp[this]
theorem kz {ds:List AL}(hl:ds.length<=1048576)(hc :∀d∈ds,dz d<=1048576){N:Nat}(hN:2000000<=N):Ii N ds ds=some true:=by
 have inner:∀{k:Nat} {d:AL},ds[k]?=some d->∀{M i:Nat},i<=d.cons.length->d.cons.length-i<M->EE N (k:Int) ds ds M i=some (Sum.inr ()):=by
  intro k d hd M i hi hM;have hz:=hc d (oz hd);have hz2:=hz;unfold dz at hz2;refine BQ d.cons.length (λM i=>EE N (k:Int) ds ds M i=some (Sum.inr ())) ?_ ?_ hi hM
  .intro n;rw[EE,Ax hd];simp only[ov];rw[pK (by simp[AI])]
  .intro n i hi ih;obtain⟨c,hx,hm⟩:=Bh hi;have h1:=MG cz hm;have h3:c.fields.length<=cz c:=by unfold cz;omega
   have h2:c.fields.length<=1048576:=by omega
   rw[EE,Ax hd];simp only[ov];rw[pJ (by simp[AI];omega),Ax hx];simp only[ov];rw[du h2 hN,BE (by omega) (by omega),show ((i:Int)+1)=((i+1:Nat):Int) by omega];simpa using ih
 have key:∀{M i:Nat},i<=ds.length->ds.length-i<M->D8 N ds ds M i=some (Sum.inr ()):=by
  intro M i hi hM;refine BQ ds.length (λM i=>D8 N ds ds M i=some (Sum.inr ())) ?_ ?_ hi hM
  .intro n;rw[D8,pK (by simp[AI])]
  .intro n i hi ih;obtain⟨d,hx,hm⟩:=Bh hi;have hz:=hc d hm;unfold dz at hz;have h2:=inner hx (pT _) (by omega:d.cons.length-0<N);rw[tl]at h2;rw[D8,pJ (by simp[AI];omega),Ax hx];simp only[ov,pX,qD,pF,pV];rw[h2,BE (by omega) (by omega),show ((i:Int)+1)=((i+1:Nat):Int) by omega];simpa using ih
 unfold Ii;have:=key (pT _) (by omega:ds.length-0<N);rw[tl]at this;simp[this]
theorem kE {N:Nat}(hN:2000000<=N):∀(n:Nat) (e:AD),en e<=n->en e<=1048577->Fb N n e e=some true:=by
 intro n
 induction n with
 |zero=>intro e h;have:=Fc e;omega
 |succ n ih=>
  intro e h hs;have h1:=Fs e;have h2:=HL e.kids;have key:∀{M i:Nat},i<=e.kids.length->e.kids.length-i<M->Dv e e (Fb N n) M i=some (Sum.inr ()):=by
   intro M i hi hM;refine BQ e.kids.length (λM i=>Dv e e (Fb N n) M i=some (Sum.inr ())) ?_ ?_ hi hM
   .intro n;rw[Dv,pK (by simp[AI])]
   .intro m i hi xI;obtain⟨k,hx,hm⟩:=Bh hi;have h3:=Ca hm;rw[Dv,pJ (by simp[AI];omega),Ax hx];simp only[ov];rw[ih k (by omega) (by omega),BE (by omega) (by omega),show ((i:Int)+1)=((i+1:Nat):Int) by omega];simpa using xI
  have:=key (pT _) (by omega:e.kids.length-0<N);rw[tl]at this;rw[Fb];unfold Jc;simp[this]
theorem kP {p:AJ}(S:Du p){N:Nat}(hN:2000000<=N):Gk N p p=some true:=by
 have hz:=S.size;unfold Un at hz;have key:∀{M i:Nat},i<=p.funcs.length->p.funcs.length-i<M->DT N p p M i=some (Sum.inr ()):=by
  intro M i hi hM;refine BQ p.funcs.length (λM i=>DT N p p M i=some (Sum.inr ())) ?_ ?_ hi hM
  .intro n;rw[DT,pK (by simp[AI])]
  .intro n i hi ih;obtain⟨f,hx,hm⟩:=Bh hi;have h1:=S.fz hm;have h2:=Fs f.body;have:=S.JL;rw[DT,pJ (by simp[AI];omega),Ax hx];simp only[ov];rw[du h1.1 hN,MZ,kE hN N f.body (by omega) (by omega),BE (by omega) (by omega),show ((i:Int)+1)=((i+1:Nat):Int) by omega];simpa using ih
 unfold Gk;have:=S.JL;have h0:=key (pT _) (by omega:p.funcs.length-0<N);rw[tl]at h0;rw[kz (by omega) (λd hd=>by have:=MG dz hd;omega) hN];simp[h0]
end RC
