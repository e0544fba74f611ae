import Derived.Test.YtihdgoiebmfapaaGreatGTYAToYGF
set_option linter.all false
namespace RC
open Go
theorem jC {l:List Int}(hl:l.length<=1048576){N:Nat}(hN:2000000<=N):Hq N l l=some true:=by
 have key:∀{N i:Nat},i<=l.length->l.length-i<N->EW l l N i=some (Sum.inr ()):=by
  intro N i hi hN;refine BS l.length (λN i=>EW l l N i=some (Sum.inr ())) ?_ ?_ hi hN
  .intro n;rw[EW,pJ (by simp[AI])]
  .intro n i hi ih;obtain⟨x,hx,_⟩:=Bi hi;rw[EW,pI (by simp[AI];omega),Aw hx];simp only[ou];rw[BE (by omega) (by omega),show ((i:Int)+1)=((i+1:Nat):Int) by omega];simpa using ih
 unfold Hq;have:=key (pT _) (by omega:l.length-0<N);rw[tk]at this;simp[this]
theorem lv {ds:List AK}(hl:ds.length<=1048576)(hc :∀d∈ds,dz d<=1048576){N:Nat}(hN:2000000<=N):Ih N ds ds=some true:=by
 have inner:∀{k:Nat} {d:AK},ds[k]?=some d->∀{M i:Nat},i<=d.cons.length->d.cons.length-i<M->EC N (k:Int) ds ds M i=some (Sum.inr ()):=by
  intro k d hd M i hi hM;have hz:=hc d (ov hd);have hz2:=hz;unfold dz at hz2;refine BS d.cons.length (λM i=>EC N (k:Int) ds ds M i=some (Sum.inr ())) ?_ ?_ hi hM
  .intro n;rw[EC,Aw hd];simp only[ou];rw[pJ (by simp[AI])]
  .intro n i hi ih;obtain⟨c,hx,hm⟩:=Bi hi;have h1:=MR cz hm;have h3:c.fields.length<=cz c:=by unfold cz;omega
   have h2:c.fields.length<=1048576:=by omega
   rw[EC,Aw hd];simp only[ou];rw[pI (by simp[AI];omega),Aw hx];simp only[ou];rw[jC h2 hN,BE (by omega) (by omega),show ((i:Int)+1)=((i+1:Nat):Int) by omega];simpa using ih
 have key:∀{M i:Nat},i<=ds.length->ds.length-i<M->EA N ds ds M i=some (Sum.inr ()):=by
  intro M i hi hM;refine BS ds.length (λM i=>EA N ds ds M i=some (Sum.inr ())) ?_ ?_ hi hM
  .intro n;rw[EA,pJ (by simp[AI])]
  .intro n i hi ih;obtain⟨d,hx,hm⟩:=Bi hi;have hz:=hc d hm;unfold dz at hz;have h2:=inner hx (pT _) (by omega:d.cons.length-0<N);rw[tk]at h2;rw[EA,pI (by simp[AI];omega),Aw hx];simp only[ou,pW,qC,pD,pV];rw[h2,BE (by omega) (by omega),show ((i:Int)+1)=((i+1:Nat):Int) by omega];simpa using ih
 unfold Ih;have:=key (pT _) (by omega:ds.length-0<N);rw[tk]at this;simp[this]
theorem iy {N:Nat}(hN:2000000<=N):∀(n:Nat) (e:AD),en e<=n->en e<=1048577->Fg N n e e=some true:=by
 intro n
 induction n with
 |zero=>intro e h;have:=Fi e;omega
 |succ n ih=>
  intro e h hs;have h1:=Ft e;have h2:=HF e.kids;have key:∀{M i:Nat},i<=e.kids.length->e.kids.length-i<M->Dl e e (Fg N n) M i=some (Sum.inr ()):=by
   intro M i hi hM;refine BS e.kids.length (λM i=>Dl e e (Fg N n) M i=some (Sum.inr ())) ?_ ?_ hi hM
   .intro n;rw[Dl,pJ (by simp[AI])]
   .intro m i hi xH;obtain⟨k,hx,hm⟩:=Bi hi;have h3:=Ca hm;rw[Dl,pI (by simp[AI];omega),Aw hx];simp only[ou];rw[ih k (by omega) (by omega),BE (by omega) (by omega),show ((i:Int)+1)=((i+1:Nat):Int) by omega];simpa using xH
  have:=key (pT _) (by omega:e.kids.length-0<N);rw[tk]at this;rw[Fg];unfold Jd;simp[this]
theorem av {p:AJ}(S:Ds p){N:Nat}(hN:2000000<=N):FI N p p=some true:=by
 have hz:=S.size;unfold U3 at hz;have key:∀{M i:Nat},i<=p.funcs.length->p.funcs.length-i<M->DU N p p M i=some (Sum.inr ()):=by
  intro M i hi hM;refine BS p.funcs.length (λM i=>DU N p p M i=some (Sum.inr ())) ?_ ?_ hi hM
  .intro n;rw[DU,pJ (by simp[AI])]
  .intro n i hi ih;obtain⟨f,hx,hm⟩:=Bi hi;have h1:=S.fz hm;have h2:=Ft f.body;have:=S.J2;rw[DU,pI (by simp[AI];omega),Aw hx];simp only[ou];rw[jC h1.1 hN,MW,iy hN N f.body (by omega) (by omega),BE (by omega) (by omega),show ((i:Int)+1)=((i+1:Nat):Int) by omega];simpa using ih
 unfold FI;have:=S.J2;have h0:=key (pT _) (by omega:p.funcs.length-0<N);rw[tk]at h0;rw[lv (by omega) (λd hd=>by have:=MR dz hd;omega) hN];simp[h0]
end RC
