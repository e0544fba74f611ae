import Derived.Test.YtihdgoiebmfapaaGreatGTYFToYGF
set_option linter.all false
namespace RC
open Go
theorem dD {l:List Int}(hl:l.length<=1048576){N:Nat}(hN:2000000<=N):G9 N l l=some true:=by
 have key:∀{N i:Nat},i<=l.length->l.length-i<N->EH l l N i=some (Sum.inr ()):=by
  intro N i hi hN;refine Bo l.length (λN i=>EH l l N i=some (Sum.inr ())) ?_ ?_ hi hN
  ·intro n;rw[EH,jn (by simp[AN])]
  ·intro n i hi ih;obtain⟨x,hx,_⟩:=CF hi;rw[EH,jm (by simp[AN];omega),BH hx];simp only[jd];rw[BK (by omega) (by omega),show ((i:Int)+1)=((i+1:Nat):Int) by omega];simpa using ih
 unfold G9;have:=key (kE _) (by omega:l.length-0<N);rw[oQ]at this;simp[this]
theorem fT {ds:List AM}(hl:ds.length<=1048576)(hc :∀d∈ds,dz d<=1048576){N:Nat}(hN:2000000<=N):Hi N ds ds=some true:=by
 have inner:∀{k:Nat} {d:AM},ds[k]?=some d->∀{M i:Nat},i<=d.cons.length->d.cons.length-i<M->Dw N (k:Int) ds ds M i=some (Sum.inr ()):=by
  intro k d hd M i hi hM;have hz:=hc d (je hd);have hz2:=hz;unfold dz at hz2;refine Bo d.cons.length (λM i=>Dw N (k:Int) ds ds M i=some (Sum.inr ())) ?_ ?_ hi hM
  ·intro n;rw[Dw,BH hd];simp only[jd];rw[jn (by simp[AN])]
  ·intro n i hi ih;obtain⟨c,hx,hm⟩:=CF hi;have h1:=Kz cz hm;have h3:c.fields.length<=cz c:=by unfold cz;omega
   have h2:c.fields.length<=1048576:=by omega
   rw[Dw,BH hd];simp only[jd];rw[jm (by simp[AN];omega),BH hx];simp only[jd];rw[dD h2 hN,BK (by omega) (by omega),show ((i:Int)+1)=((i+1:Nat):Int) by omega];simpa using ih
 have key:∀{M i:Nat},i<=ds.length->ds.length-i<M->Du N ds ds M i=some (Sum.inr ()):=by
  intro M i hi hM;refine Bo ds.length (λM i=>Du N ds ds M i=some (Sum.inr ())) ?_ ?_ hi hM
  ·intro n;rw[Du,jn (by simp[AN])]
  ·intro n i hi ih;obtain⟨d,hx,hm⟩:=CF hi;have hz:=hc d hm;unfold dz at hz;have h2:=inner hx (kE _) (by omega:d.cons.length-0<N);rw[oQ]at h2;rw[Du,jm (by simp[AN];omega),BH hx];simp only[jd,jx,lL,jk,kH];rw[h2,BK (by omega) (by omega),show ((i:Int)+1)=((i+1:Nat):Int) by omega];simpa using ih
 unfold Hi;have:=key (kE _) (by omega:ds.length-0<N);rw[oQ]at this;simp[this]
theorem dP {N:Nat}(hN:2000000<=N):∀(n:Nat) (e:AE),en e<=n->en e<=1048577->E6 N n e e=some true:=by
 intro n
 induction n with
 | zero=>intro e h;have:=G6 e;omega
 | succ n ih=>
  intro e h hs;have h1:=Fw e;have h2:=H2 e.kids;have key:∀{M i:Nat},i<=e.kids.length->e.kids.length-i<M->Di e e (E6 N n) M i=some (Sum.inr ()):=by
   intro M i hi hM;refine Bo e.kids.length (λM i=>Di e e (E6 N n) M i=some (Sum.inr ())) ?_ ?_ hi hM
   ·intro n;rw[Di,jn (by simp[AN])]
   ·intro m i hi sU;obtain⟨k,hx,hm⟩:=CF hi;have h3:=DE hm;rw[Di,jm (by simp[AN];omega),BH hx];simp only[jd];rw[ih k (by omega) (by omega),BK (by omega) (by omega),show ((i:Int)+1)=((i+1:Nat):Int) by omega];simpa using sU
  have:=key (kE _) (by omega:e.kids.length-0<N);rw[oQ]at this;rw[E6];unfold Is;simp[this]
theorem dU {p:AP}(S:EB p){N:Nat}(hN:2000000<=N):FW N p p=some true:=by
 have hz:=S.size;unfold SW at hz;have key:∀{M i:Nat},i<=p.funcs.length->p.funcs.length-i<M->DQ N p p M i=some (Sum.inr ()):=by
  intro M i hi hM;refine Bo p.funcs.length (λM i=>DQ N p p M i=some (Sum.inr ())) ?_ ?_ hi hM
  ·intro n;rw[DQ,jn (by simp[AN])]
  ·intro n i hi ih;obtain⟨f,hx,hm⟩:=CF hi;have h1:=S.fz hm;have h2:=Fw f.body;have:=S.LN;rw[DQ,jm (by simp[AN];omega),BH hx];simp only[jd];rw[dD h1.1 hN,Lb,dP hN N f.body (by omega) (by omega),BK (by omega) (by omega),show ((i:Int)+1)=((i+1:Nat):Int) by omega];simpa using ih
 unfold FW;have:=S.LN;have h0:=key (kE _) (by omega:p.funcs.length-0<N);rw[oQ]at h0;rw[fT (by omega) (λd hd=>by have:=Kz dz hd;omega) hN];simp[h0]
end RC
