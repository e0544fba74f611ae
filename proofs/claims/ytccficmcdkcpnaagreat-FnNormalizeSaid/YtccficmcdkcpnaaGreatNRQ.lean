import Derived.Test.YtccficmcdkcpnaaGreatGYGEToNRP
set_option linter.all false
namespace RC
open Go
theorem Tv {code:List Int}(h8:IJ U8 code):KD 2000000 code=some true:=by
 have hN:(2000000:Nat)<=2000000:=qU _;unfold KD;rw[AK];by_cases hl:1048576<(code.length:Int)
 ·rw[qF (by simpa using hl)]
 rw[qG (by simpa using hl)];obtain⟨p,hd,P⟩ :∃p,He 2000000 code=some p/\PD p:=by
  unfold He;refine Af.bind (Yb h8.1 (by omega)) λq3 ⟨Bb,hq⟩=>?_;refine Af.bind (Wi Bb hN (by omega) (by omega)) λq5 ⟨P,_,_⟩=>Af.some P
 rw[hd];simp only[po];have S:=P.small;rcases fF S hN with ⟨e1,e2⟩|⟨e1,e2,NS,v1,v2,yP,zD⟩
 ·have NS0:JZ ⟨[],[]⟩:=⟨⟨⟨(by intro d h;cases h),by simp⟩,⟨(by intro r h;cases h),by simp⟩⟩,by simp[dg]⟩
  rw[e1,e2];simp only[po];rw[bb NS0 hN];simp
 ·rw[e1,e2];simp only[po];rw[bb NS hN,v1,v2];simp only[po,rA,py,qR,bne_self_eq_false];have key:∀{M i:Nat},i<=p.funcs.length->p.funcs.length-i<M->EX 2000000 p (Oa p,true) M i=some (Sum.inr ()):=by
   intro M i hi hM;refine Bm p.funcs.length (λM i=>EX 2000000 p (Oa p,true) M i=some (Sum.inr ())) ?_ ?_ hi hM
   ·intro n;rw[EX,G7]
   ·intro n i hi ih;obtain⟨f,hx,hm⟩:=Ba hi;have hx2:(Oa p).AU[i]?=some (MJ p.decls f):=by
     show (p.funcs.map (MJ p.decls))[i]?=_;rw[qA,hx];rfl
    have h3:=zD f hm;rw[EX,Gp,Av hx2,Av hx];simp only[po];rw[show (MJ p.decls f).CE=[] from rfl,show (MJ p.decls f).params=f.params from rfl,show (MJ p.decls f).result=f.result from rfl,YE (by omega) hN,wI,show ((i:Int)+1)=((i+1:Nat):Int) by omega];simpa [AK] using ih
  have h0:=key (qd _) (by omega:p.funcs.length-0<2000000);rw[uS]at h0;rw[h0];have DS:=S.decls;have hdz:∀d∈p.decls,dz d<=1048576:=λd hd=>by
   have h:=S.size;unfold dG at h;have:=Jl dz hd;omega
  have hdl:p.decls.length<=1048576:=by have h:=S.size;unfold dG at h;omega
  have hlen:Sh.len (Oa p).AU=Sh.len p.funcs:=by
   rw[AK,AK];show ((p.funcs.map (MJ p.decls)).length:Int)=_;rw[qc]
  rw[hlen,show (Oa p).decls=p.decls from rfl,gP hdl hdz hN];simp[Sh.cont]
end RC
