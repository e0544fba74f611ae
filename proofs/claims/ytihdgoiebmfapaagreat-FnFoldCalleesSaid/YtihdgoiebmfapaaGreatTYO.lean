import Derived.Test.YtihdgoiebmfapaaGreatGHADefsToFEDefs
import Derived.Test.YtihdgoiebmfapaaGreatGTYNToYGG
namespace RC
open Go
theorem bq {l m:List Int}(hl:l.length<=1048576)(hm:m.length<=1048576)(h :∀x∈l,x∈m){N:Nat}(hN:2000000<=N):Kg N l m=some true:=by
 have key:∀{M i:Nat},i<=l.length->l.length-i<M->FW N l m M i=some (Sum.inr ()):=by
  intro M i hi hM;refine Bi l.length (λM i=>FW N l m M i=some (Sum.inr ())) ?_ ?_ hi hM
  ·intro n;rw[FW,la (by simp[AM])]
  ·intro n i hi ih;obtain⟨x,hx,tc⟩:=Bz hi;rw[FW,ld (by simp[AM];omega),BG hx];simp only[lS];rw[lO hm hN,BJ (by omega) (by omega),show ((i:Int)+1)=((i+1:Nat):Int) by omega];simpa [h x tc] using ih
 unfold Kg;have:=key (mB _) (by omega:l.length-0<N);rw[show ((0:Nat):Int)=0 from rfl]at this;rw[this];rfl
theorem dg {p:AP}{k:Nat}{x:Int}(h:x∈VR (FM p (FT p)) k):x∈VR p k:=by
 unfold VR at h⊢;have e:(FM p (FT p)).funcs[k]?=(p.funcs[k]?).map λf=>Ac.mk f.params f.result (FT p f):=by
  show (p.funcs.map _)[k]?=_;rw[lW]
 rw[e]at h;cases hf:p.funcs[k]? with
 | none=>rw[hf]at h;exact h
 | some f=>
  rw[hf]at h;exact gU _ f.body f.params.length (ll _) h
theorem QF {code:List Int}(h8:IV U8 code):Hv 2000000 code=some true:=by
 have hN:(2000000:Nat)<=2000000:=ll _;unfold Hv;rw[AM];by_cases hl:1048576<(code.length:Int)
 ·rw[ld (by simpa using hl)]
 rw[la (by simpa using hl)];obtain⟨p,hd,P⟩:=XI h8 (by omega);rw[hd];simp only[lS];rcases Zj P.small hN with ⟨e1,e2⟩|⟨hv,e1,e2,c,a1,a2,_⟩
 ·rw[e1,e2];simp[gS bu hN]
 ·rw[e1,e2];have P1:=YG P.small hN hv;have P2:=YG c hN a1;have v1:Cw 2000000 p=some true:=by
   obtain⟨b,f1,f2,_⟩:=G9 P.small hN;rw[hv]at f1;cases f1;exact f2
  have hF:=P1.le;have hlen:(FM p (FT p)).funcs.length=p.funcs.length:=by show (p.funcs.map _).length=_;rw[ly]
  have key:∀{M i:Nat},i<=p.funcs.length->p.funcs.length-i<M->DB 2000000 p (FM p (FT p),true) M i=some (Sum.inr ()):=by
   intro M i hi hM;refine Bi p.funcs.length (λM i=>DB 2000000 p (FM p (FT p),true) M i=some (Sum.inr ())) ?_ ?_ hi hM
   ·intro n;rw[DB,la (by simp[AM])]
   ·intro n i hi ih;have n1:¬ (p.funcs.length:Int)<=(i:Int):=by omega
    have c1:=cV (p:=p) (F:=p.funcs.length) (k:=i);have c2:=cV (p:=FM p (FT p)) (F:=(FM p (FT p)).funcs.length) (k:=i);rw[DB,ld (by simp[AM];omega)];simp only[AM,hlen,n1,lx,lY,mC];rw[Q2 P2 (by omega) hN a2,Q2 P1 (by omega) hN v1];simp only[lS];rw[bq (by omega) (by omega) (λx hx=>(ca P1 x).2 (dg ((ca P2 x).1 hx))) hN,BJ (by omega) (by omega),show ((i:Int)+1)=((i+1:Nat):Int) by omega];simpa using ih
  have h0:=key (mB _) (by omega:p.funcs.length-0<2000000);rw[show ((0:Nat):Int)=0 from rfl]at h0;simp[gS c hN,h0,Sh.cont,AM,hlen]
end RC
