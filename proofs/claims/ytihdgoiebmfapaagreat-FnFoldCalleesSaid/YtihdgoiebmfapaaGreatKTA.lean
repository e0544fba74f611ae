import Derived.Test.YtihdgoiebmfapaaGreatGTYEToYGF
namespace RC
open Go
theorem gO {l:List Int}(hl:l.length<=1048576){N:Nat}(hN:2000000<=N):HP N l l=some true:=by
 have key:∀{N i:Nat},i<=l.length->l.length-i<N->EF l l N i=some (Sum.inr ()):=by
  intro N i hi hN;refine Bi l.length (λN i=>EF l l N i=some (Sum.inr ())) ?_ ?_ hi hN
  ·intro n;rw[EF,la (by simp[AM])]
  ·intro n i hi ih;obtain⟨x,hx,_⟩:=Bz hi;rw[EF,ld (by simp[AM];omega),BG hx];simp only[lS];rw[BJ (by omega) (by omega),show ((i:Int)+1)=((i+1:Nat):Int) by omega];simpa using ih
 unfold HP;have:=key (mB _) (by omega:l.length-0<N);rw[qU]at this;simp[this]
theorem gr {ds:List AN}(hl:ds.length<=1048576)(hc :∀d∈ds,dz d<=1048576){N:Nat}(hN:2000000<=N):Hx N ds ds=some true:=by
 have inner:∀{k:Nat} {d:AN},ds[k]?=some d->∀{M i:Nat},i<=d.cons.length->d.cons.length-i<M->Dy N (k:Int) ds ds M i=some (Sum.inr ()):=by
  intro k d hd M i hi hM;have hz:=hc d (lT hd);have hz2:=hz;unfold dz at hz2;refine Bi d.cons.length (λM i=>Dy N (k:Int) ds ds M i=some (Sum.inr ())) ?_ ?_ hi hM
  ·intro n;rw[Dy,BG hd];simp only[lS];rw[la (by simp[AM])]
  ·intro n i hi ih;obtain⟨c,hx,hm⟩:=Bz hi;have h1:=Lj cz hm;have h3:c.fields.length<=cz c:=by unfold cz;omega
   have h2:c.fields.length<=1048576:=by omega
   rw[Dy,BG hd];simp only[lS];rw[ld (by simp[AM];omega),BG hx];simp only[lS];rw[gO h2 hN,BJ (by omega) (by omega),show ((i:Int)+1)=((i+1:Nat):Int) by omega];simpa using ih
 have key:∀{M i:Nat},i<=ds.length->ds.length-i<M->D2 N ds ds M i=some (Sum.inr ()):=by
  intro M i hi hM;refine Bi ds.length (λM i=>D2 N ds ds M i=some (Sum.inr ())) ?_ ?_ hi hM
  ·intro n;rw[D2,la (by simp[AM])]
  ·intro n i hi ih;obtain⟨d,hx,hm⟩:=Bz hi;have hz:=hc d hm;unfold dz at hz;have h2:=inner hx (mB _) (by omega:d.cons.length-0<N);rw[qU]at h2;rw[D2,ld (by simp[AM];omega),BG hx];simp only[lS,lr,nA,lY,mC];rw[h2,BJ (by omega) (by omega),show ((i:Int)+1)=((i+1:Nat):Int) by omega];simpa using ih
 unfold Hx;have:=key (mB _) (by omega:ds.length-0<N);rw[qU]at this;simp[this]
theorem fA {N:Nat}(hN:2000000<=N):∀(n:Nat) (e:AE),en e<=n->en e<=1048577->FD N n e e=some true:=by
 intro n
 induction n with
 | zero=>intro e h;have:=F9 e;omega
 | succ n ih=>
  intro e h hs;have h1:=Fx e;have h2:=HU e.kids;have key:∀{M i:Nat},i<=e.kids.length->e.kids.length-i<M->Dj e e (FD N n) M i=some (Sum.inr ()):=by
   intro M i hi hM;refine Bi e.kids.length (λM i=>Dj e e (FD N n) M i=some (Sum.inr ())) ?_ ?_ hi hM
   ·intro n;rw[Dj,la (by simp[AM])]
   ·intro m i hi tv;obtain⟨k,hx,hm⟩:=Bz hi;have h3:=Cs hm;rw[Dj,ld (by simp[AM];omega),BG hx];simp only[lS];rw[ih k (by omega) (by omega),BJ (by omega) (by omega),show ((i:Int)+1)=((i+1:Nat):Int) by omega];simpa using tv
  have:=key (mB _) (by omega:e.kids.length-0<N);rw[qU]at this;rw[FD];unfold I4;simp[this]
theorem fV {p:AP}(S:EA p){N:Nat}(hN:2000000<=N):GG N p p=some true:=by
 have hz:=S.size;unfold Tc at hz;have key:∀{M i:Nat},i<=p.funcs.length->p.funcs.length-i<M->DT N p p M i=some (Sum.inr ()):=by
  intro M i hi hM;refine Bi p.funcs.length (λM i=>DT N p p M i=some (Sum.inr ())) ?_ ?_ hi hM
  ·intro n;rw[DT,la (by simp[AM])]
  ·intro n i hi ih;obtain⟨f,hx,hm⟩:=Bz hi;have h1:=S.fz hm;have h2:=Fx f.body;have:=S.KJ;rw[DT,ld (by simp[AM];omega),BG hx];simp only[lS];rw[gO h1.1 hN,Lt,fA hN N f.body (by omega) (by omega),BJ (by omega) (by omega),show ((i:Int)+1)=((i+1:Nat):Int) by omega];simpa using ih
 unfold GG;have:=S.KJ;have h0:=key (mB _) (by omega:p.funcs.length-0<N);rw[qU]at h0;rw[gr (by omega) (λd hd=>by have:=Lj dz hd;omega) hN];simp[h0]
end RC
