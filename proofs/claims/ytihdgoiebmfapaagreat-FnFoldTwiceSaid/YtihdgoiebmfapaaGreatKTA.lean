import Derived.Test.YtihdgoiebmfapaaGreatGHADefsToFTDefs
import Derived.Test.YtihdgoiebmfapaaGreatGPlainAToTYE
import Derived.Test.YtihdgoiebmfapaaGreatGTYFToYGF
namespace RC
open Go
theorem eE {l:List Int}(hl:l.length<=1048576){N:Nat}(hN:2000000<=N):HE N l l=some true:=by
 have key:∀{N i:Nat},i<=l.length->l.length-i<N->EF l l N i=some (Sum.inr ()):=by
  intro N i hi hN;refine Bo l.length (λN i=>EF l l N i=some (Sum.inr ())) ?_ ?_ hi hN
  ·intro n;rw[EF,jn (by simp[AN])]
  ·intro n i hi ih;obtain⟨x,hx,_⟩:=CF hi;rw[EF,jm (by simp[AN];omega),BH hx];simp only[jd];rw[BK (by omega) (by omega),show ((i:Int)+1)=((i+1:Nat):Int) by omega];simpa using ih
 unfold HE;have:=key (kE _) (by omega:l.length-0<N);rw[show ((0:Nat):Int)=0 from rfl]at this;simp[this]
theorem ek {ds:List AM}(hl:ds.length<=1048576)(hc :∀d∈ds,dz d<=1048576){N:Nat}(hN:2000000<=N):H2 N ds ds=some true:=by
 have inner:∀{k:Nat} {d:AM},ds[k]?=some d->∀{M i:Nat},i<=d.cons.length->d.cons.length-i<M->Dp N (k:Int) ds ds M i=some (Sum.inr ()):=by
  intro k d hd M i hi hM;have hz:=hc d (je hd);have hz2:=hz;unfold dz at hz2;refine Bo d.cons.length (λM i=>Dp N (k:Int) ds ds M i=some (Sum.inr ())) ?_ ?_ hi hM
  ·intro n;rw[Dp,BH hd];simp only[jd];rw[jn (by simp[AN])]
  ·intro n i hi ih;obtain⟨c,hx,hm⟩:=CF hi;have h1:=LR cz hm;have h3:c.fields.length<=cz c:=by unfold cz;omega
   have h2:c.fields.length<=1048576:=by omega
   rw[Dp,BH hd];simp only[jd];rw[jm (by simp[AN];omega),BH hx];simp only[jd];rw[eE h2 hN,BK (by omega) (by omega),show ((i:Int)+1)=((i+1:Nat):Int) by omega];simpa using ih
 have key:∀{M i:Nat},i<=ds.length->ds.length-i<M->Dr N ds ds M i=some (Sum.inr ()):=by
  intro M i hi hM;refine Bo ds.length (λM i=>Dr N ds ds M i=some (Sum.inr ())) ?_ ?_ hi hM
  ·intro n;rw[Dr,jn (by simp[AN])]
  ·intro n i hi ih;obtain⟨d,hx,hm⟩:=CF hi;have hz:=hc d hm;unfold dz at hz;have h2:=inner hx (kE _) (by omega:d.cons.length-0<N);rw[show ((0:Nat):Int)=0 from rfl]at h2;rw[Dr,jm (by simp[AN];omega),BH hx];simp only[jd,jx,lL,jk,kH];rw[h2,BK (by omega) (by omega),show ((i:Int)+1)=((i+1:Nat):Int) by omega];simpa using ih
 unfold H2;have:=key (kE _) (by omega:ds.length-0<N);rw[show ((0:Nat):Int)=0 from rfl]at this;simp[this]
theorem dD {N:Nat}(hN:2000000<=N):∀(n:Nat) (e:AE),en e<=n->en e<=1048577->E5 N n e e=some true:=by
 intro n
 induction n with
 | zero=>intro e h;have:=G6 e;omega
 | succ n ih=>
  intro e h hs;have h1:=Fw e;have h2:=Hk e.kids;have key:∀{M i:Nat},i<=e.kids.length->e.kids.length-i<M->Df e e (E5 N n) M i=some (Sum.inr ()):=by
   intro M i hi hM;refine Bo e.kids.length (λM i=>Df e e (E5 N n) M i=some (Sum.inr ())) ?_ ?_ hi hM
   ·intro n;rw[Df,jn (by simp[AN])]
   ·intro m i hi ih2;obtain⟨k,hx,hm⟩:=CF hi;have h3:=DG hm;rw[Df,jm (by simp[AN];omega),BH hx];simp only[jd];rw[ih k (by omega) (by omega),BK (by omega) (by omega),show ((i:Int)+1)=((i+1:Nat):Int) by omega];simpa using ih2
  have:=key (kE _) (by omega:e.kids.length-0<N);rw[show ((0:Nat):Int)=0 from rfl]at this;rw[E5];unfold Iq;simp[this]
theorem dG {p:AP}(S:EE p){N:Nat}(hN:2000000<=N):FX N p p=some true:=by
 have hz:=S.size;unfold Sz at hz;have key:∀{M i:Nat},i<=p.funcs.length->p.funcs.length-i<M->DP N p p M i=some (Sum.inr ()):=by
  intro M i hi hM;refine Bo p.funcs.length (λM i=>DP N p p M i=some (Sum.inr ())) ?_ ?_ hi hM
  ·intro n;rw[DP,jn (by simp[AN])]
  ·intro n i hi ih;obtain⟨f,hx,hm⟩:=CF hi;have h1:=S.fz hm;have h2:=Fw f.body;have:=S.Kz;rw[DP,jm (by simp[AN];omega),BH hx];simp only[jd];rw[eE h1.1 hN,LU,dD hN N f.body (by omega) (by omega),BK (by omega) (by omega),show ((i:Int)+1)=((i+1:Nat):Int) by omega];simpa using ih
 unfold FX;have:=S.Kz;have h0:=key (kE _) (by omega:p.funcs.length-0<N);rw[show ((0:Nat):Int)=0 from rfl]at h0;rw[ek (by omega) (λd hd=>by have:=LR dz hd;omega) hN];simp[h0]
end RC
