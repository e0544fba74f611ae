import Derived.Test.YtihdgoiebmfapaaGreatGTYEToYGF
set_option linter.all false
namespace RC
open Go
theorem fq {l:List Int}(hl:l.length<=1048576){N:Nat}(hN:2000000<=N):HM N l l=some true:=by
 have key:∀{N i:Nat},i<=l.length->l.length-i<N->EK l l N i=some (Sum.inr ()):=by
  intro N i hi hN;refine Bh l.length (λN i=>EK l l N i=some (Sum.inr ())) ?_ ?_ hi hN
  ·intro n;rw[EK,la (by simp[AM])]
  ·intro n i hi ih;obtain⟨x,hx,_⟩:=Bz hi;rw[EK,ld (by simp[AM];omega),BG hx];simp only[lS];rw[BJ (by omega) (by omega),show ((i:Int)+1)=((i+1:Nat):Int) by omega];simpa using ih
 unfold HM;have:=key (mB _) (by omega:l.length-0<N);rw[qU]at this;simp[this]
theorem iu {ds:List AN}(hl:ds.length<=1048576)(hc :∀d∈ds,dz d<=1048576){N:Nat}(hN:2000000<=N):IM N ds ds=some true:=by
 have inner:∀{k:Nat} {d:AN},ds[k]?=some d->∀{M i:Nat},i<=d.cons.length->d.cons.length-i<M->D2 N (k:Int) ds ds M i=some (Sum.inr ()):=by
  intro k d hd M i hi hM;have hz:=hc d (lT hd);have hz2:=hz;unfold dz at hz2;refine Bh d.cons.length (λM i=>D2 N (k:Int) ds ds M i=some (Sum.inr ())) ?_ ?_ hi hM
  ·intro n;rw[D2,BG hd];simp only[lS];rw[la (by simp[AM])]
  ·intro n i hi ih;obtain⟨c,hx,hm⟩:=Bz hi;have h1:=Ld cz hm;have h3:c.fields.length<=cz c:=by unfold cz;omega
   have h2:c.fields.length<=1048576:=by omega
   rw[D2,BG hd];simp only[lS];rw[ld (by simp[AM];omega),BG hx];simp only[lS];rw[fq h2 hN,BJ (by omega) (by omega),show ((i:Int)+1)=((i+1:Nat):Int) by omega];simpa using ih
 have key:∀{M i:Nat},i<=ds.length->ds.length-i<M->Dv N ds ds M i=some (Sum.inr ()):=by
  intro M i hi hM;refine Bh ds.length (λM i=>Dv N ds ds M i=some (Sum.inr ())) ?_ ?_ hi hM
  ·intro n;rw[Dv,la (by simp[AM])]
  ·intro n i hi ih;obtain⟨d,hx,hm⟩:=Bz hi;have hz:=hc d hm;unfold dz at hz;have h2:=inner hx (mB _) (by omega:d.cons.length-0<N);rw[qU]at h2;rw[Dv,ld (by simp[AM];omega),BG hx];simp only[lS,lr,nA,lY,mC];rw[h2,BJ (by omega) (by omega),show ((i:Int)+1)=((i+1:Nat):Int) by omega];simpa using ih
 unfold IM;have:=key (mB _) (by omega:ds.length-0<N);rw[qU]at this;simp[this]
theorem fH {N:Nat}(hN:2000000<=N):∀(n:Nat) (e:AE),en e<=n->en e<=1048577->FB N n e e=some true:=by
 intro n
 induction n with
 | zero=>intro e h;have:=F8 e;omega
 | succ n ih=>
  intro e h hs;have h1:=Fp e;have h2:=Hi e.kids;have key:∀{M i:Nat},i<=e.kids.length->e.kids.length-i<M->Dl e e (FB N n) M i=some (Sum.inr ()):=by
   intro M i hi hM;refine Bh e.kids.length (λM i=>Dl e e (FB N n) M i=some (Sum.inr ())) ?_ ?_ hi hM
   ·intro n;rw[Dl,la (by simp[AM])]
   ·intro m i hi tv;obtain⟨k,hx,hm⟩:=Bz hi;have h3:=Cs hm;rw[Dl,ld (by simp[AM];omega),BG hx];simp only[lS];rw[ih k (by omega) (by omega),BJ (by omega) (by omega),show ((i:Int)+1)=((i+1:Nat):Int) by omega];simpa using tv
  have:=key (mB _) (by omega:e.kids.length-0<N);rw[qU]at this;rw[FB];unfold I6;simp[this]
theorem gK {p:AP}(S:D9 p){N:Nat}(hN:2000000<=N):GI N p p=some true:=by
 have hz:=S.size;unfold TU at hz;have key:∀{M i:Nat},i<=p.funcs.length->p.funcs.length-i<M->DO N p p M i=some (Sum.inr ()):=by
  intro M i hi hM;refine Bh p.funcs.length (λM i=>DO N p p M i=some (Sum.inr ())) ?_ ?_ hi hM
  ·intro n;rw[DO,la (by simp[AM])]
  ·intro n i hi ih;obtain⟨f,hx,hm⟩:=Bz hi;have h1:=S.fz hm;have h2:=Fp f.body;have:=S.KK;rw[DO,ld (by simp[AM];omega),BG hx];simp only[lS];rw[fq h1.1 hN,Lw,fH hN N f.body (by omega) (by omega),BJ (by omega) (by omega),show ((i:Int)+1)=((i+1:Nat):Int) by omega];simpa using ih
 unfold GI;have:=S.KK;have h0:=key (mB _) (by omega:p.funcs.length-0<N);rw[qU]at h0;rw[iu (by omega) (λd hd=>by have:=Ld dz hd;omega) hN];simp[h0]
end RC
