import Derived.Test.YtihdgoiebmfapaaGreatGHADefsToFEDefs
import Derived.Test.YtihdgoiebmfapaaGreatGPlainAToTYD
import Derived.Test.YtihdgoiebmfapaaGreatGTYEToYGF
namespace RC
open Go
theorem ft {l:List Int}(hl:l.length<=1048576){N:Nat}(hN:2000000<=N):HO N l l=some true:=by
 have key:∀{N i:Nat},i<=l.length->l.length-i<N->EK l l N i=some (Sum.inr ()):=by
  intro N i hi hN;refine Bi l.length (λN i=>EK l l N i=some (Sum.inr ())) ?_ ?_ hi hN
  ·intro n;rw[EK,la (by simp[AM])]
  ·intro n i hi ih;obtain⟨x,hx,_⟩:=Bz hi;rw[EK,ld (by simp[AM];omega),BG hx];simp only[lS];rw[BJ (by omega) (by omega),show ((i:Int)+1)=((i+1:Nat):Int) by omega];simpa using ih
 unfold HO;have:=key (mB _) (by omega:l.length-0<N);rw[show ((0:Nat):Int)=0 from rfl]at this;simp[this]
theorem ia {ds:List AN}(hl:ds.length<=1048576)(hc :∀d∈ds,dz d<=1048576){N:Nat}(hN:2000000<=N):H4 N ds ds=some true:=by
 have inner:∀{k:Nat} {d:AN},ds[k]?=some d->∀{M i:Nat},i<=d.cons.length->d.cons.length-i<M->Dx N (k:Int) ds ds M i=some (Sum.inr ()):=by
  intro k d hd M i hi hM;have hz:=hc d (lT hd);have hz2:=hz;unfold dz at hz2;refine Bi d.cons.length (λM i=>Dx N (k:Int) ds ds M i=some (Sum.inr ())) ?_ ?_ hi hM
  ·intro n;rw[Dx,BG hd];simp only[lS];rw[la (by simp[AM])]
  ·intro n i hi ih;obtain⟨c,hx,hm⟩:=Bz hi;have h1:=LU cz hm;have h3:c.fields.length<=cz c:=by unfold cz;omega
   have h2:c.fields.length<=1048576:=by omega
   rw[Dx,BG hd];simp only[lS];rw[ld (by simp[AM];omega),BG hx];simp only[lS];rw[ft h2 hN,BJ (by omega) (by omega),show ((i:Int)+1)=((i+1:Nat):Int) by omega];simpa using ih
 have key:∀{M i:Nat},i<=ds.length->ds.length-i<M->Dy N ds ds M i=some (Sum.inr ()):=by
  intro M i hi hM;refine Bi ds.length (λM i=>Dy N ds ds M i=some (Sum.inr ())) ?_ ?_ hi hM
  ·intro n;rw[Dy,la (by simp[AM])]
  ·intro n i hi ih;obtain⟨d,hx,hm⟩:=Bz hi;have hz:=hc d hm;unfold dz at hz;have h2:=inner hx (mB _) (by omega:d.cons.length-0<N);rw[show ((0:Nat):Int)=0 from rfl]at h2;rw[Dy,ld (by simp[AM];omega),BG hx];simp only[lS,lr,nA,lY,mC];rw[h2,BJ (by omega) (by omega),show ((i:Int)+1)=((i+1:Nat):Int) by omega];simpa using ih
 unfold H4;have:=key (mB _) (by omega:ds.length-0<N);rw[show ((0:Nat):Int)=0 from rfl]at this;simp[this]
theorem fF {N:Nat}(hN:2000000<=N):∀(n:Nat) (e:AE),en e<=n->en e<=1048577->FB N n e e=some true:=by
 intro n
 induction n with
 | zero=>intro e h;have:=F8 e;omega
 | succ n ih=>
  intro e h hs;have h1:=Fv e;have h2:=HY e.kids;have key:∀{M i:Nat},i<=e.kids.length->e.kids.length-i<M->Dk e e (FB N n) M i=some (Sum.inr ()):=by
   intro M i hi hM;refine Bi e.kids.length (λM i=>Dk e e (FB N n) M i=some (Sum.inr ())) ?_ ?_ hi hM
   ·intro n;rw[Dk,la (by simp[AM])]
   ·intro m i hi tr;obtain⟨k,hx,hm⟩:=Bz hi;have h3:=Cs hm;rw[Dk,ld (by simp[AM];omega),BG hx];simp only[lS];rw[ih k (by omega) (by omega),BJ (by omega) (by omega),show ((i:Int)+1)=((i+1:Nat):Int) by omega];simpa using tr
  have:=key (mB _) (by omega:e.kids.length-0<N);rw[show ((0:Nat):Int)=0 from rfl]at this;rw[FB];unfold I7;simp[this]
theorem gS {p:AP}(S:D9 p){N:Nat}(hN:2000000<=N):GJ N p p=some true:=by
 have hz:=S.size;unfold T5 at hz;have key:∀{M i:Nat},i<=p.funcs.length->p.funcs.length-i<M->DR N p p M i=some (Sum.inr ()):=by
  intro M i hi hM;refine Bi p.funcs.length (λM i=>DR N p p M i=some (Sum.inr ())) ?_ ?_ hi hM
  ·intro n;rw[DR,la (by simp[AM])]
  ·intro n i hi ih;obtain⟨f,hx,hm⟩:=Bz hi;have h1:=S.fz hm;have h2:=Fv f.body;have:=S.KL;rw[DR,ld (by simp[AM];omega),BG hx];simp only[lS];rw[ft h1.1 hN,Ly,fF hN N f.body (by omega) (by omega),BJ (by omega) (by omega),show ((i:Int)+1)=((i+1:Nat):Int) by omega];simpa using ih
 unfold GJ;have:=S.KL;have h0:=key (mB _) (by omega:p.funcs.length-0<N);rw[show ((0:Nat):Int)=0 from rfl]at h0;rw[ia (by omega) (λd hd=>by have:=LU dz hd;omega) hN];simp[h0]
end RC
