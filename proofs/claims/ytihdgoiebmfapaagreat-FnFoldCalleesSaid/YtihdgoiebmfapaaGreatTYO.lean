import Derived.Test.YtihdgoiebmfapaaGreatGTYNToYGG
set_option linter.all false
namespace RC
open Go
theorem cJ {l m:List Int}(hl:l.length<=1048576)(hm:m.length<=1048576)(h :∀x∈l,x∈m){N:Nat}(hN:2000000<=N):Kp N l m=some true:=by
 have key:∀{M i:Nat},i<=l.length->l.length-i<M->Fb N l m M i=some (Sum.inr ()):=by
  intro M i hi hM;refine Bh l.length (λM i=>Fb N l m M i=some (Sum.inr ())) ?_ ?_ hi hM
  ·intro n;rw[Fb,la (by simp[AM])]
  ·intro n i hi ih;obtain⟨x,hx,te⟩:=Bz hi;rw[Fb,ld (by simp[AM];omega),BG hx];simp only[lS];rw[lM hm hN,BJ (by omega) (by omega),show ((i:Int)+1)=((i+1:Nat):Int) by omega];simpa [h x te] using ih
 unfold Kp;have:=key (mB _) (by omega:l.length-0<N);rw[qU]at this;rw[this];rfl
theorem eO {p:AP}{k:Nat}{x:Int}(h:x∈VW (FJ p (FU p)) k):x∈VW p k:=by
 unfold VW at h⊢;have e:(FJ p (FU p)).funcs[k]?=(p.funcs[k]?).map λf=>Ac.mk f.params f.result (FU p f):=by
  show (p.funcs.map _)[k]?=_;rw[lW]
 rw[e]at h;cases hf:p.funcs[k]? with
 | none=>rw[hf]at h;exact h
 | some f=>
  rw[hf]at h;exact fu _ f.body f.params.length (ll _) h
theorem QA {code:List Int}(h8:IU U8 code):Hw 2000000 code=some true:=by
 have hN:(2000000:Nat)<=2000000:=ll _;unfold Hw;rw[AM];by_cases hl:1048576<(code.length:Int)
 ·rw[ld (by simpa using hl)]
 rw[la (by simpa using hl)];obtain⟨p,hd,P⟩:=XH h8 (by omega);rw[hd];simp only[lS];rcases Zn P.small hN with ⟨e1,e2⟩|⟨hv,e1,e2,c,a1,a2,_⟩
 ·rw[e1,e2];simp[gK bt hN]
 ·rw[e1,e2];have P1:=Xq P.small hN hv;have P2:=Xq c hN a1;have v1:Cw 2000000 p=some true:=by
   obtain⟨b,f1,f2,_⟩:=G9 P.small hN;rw[hv]at f1;cases f1;exact f2
  have hF:=P1.le;have hlen:(FJ p (FU p)).funcs.length=p.funcs.length:=by show (p.funcs.map _).length=_;rw[ly]
  have key:∀{M i:Nat},i<=p.funcs.length->p.funcs.length-i<M->DB 2000000 p (FJ p (FU p),true) M i=some (Sum.inr ()):=by
   intro M i hi hM;refine Bh p.funcs.length (λM i=>DB 2000000 p (FJ p (FU p),true) M i=some (Sum.inr ())) ?_ ?_ hi hM
   ·intro n;rw[DB,la (by simp[AM])]
   ·intro n i hi ih;have n1:¬ (p.funcs.length:Int)<=(i:Int):=by omega
    have c1:=cZ (p:=p) (F:=p.funcs.length) (k:=i);have c2:=cZ (p:=FJ p (FU p)) (F:=(FJ p (FU p)).funcs.length) (k:=i);rw[DB,ld (by simp[AM];omega)];simp only[AM,hlen,n1,lx,lY,mC];rw[Q3 P2 (by omega) hN a2,Q3 P1 (by omega) hN v1];simp only[lS];rw[cJ (by omega) (by omega) (λx hx=>(dA P1 x).2 (eO ((dA P2 x).1 hx))) hN,BJ (by omega) (by omega),show ((i:Int)+1)=((i+1:Nat):Int) by omega];simpa using ih
  have h0:=key (mB _) (by omega:p.funcs.length-0<2000000);rw[qU]at h0;simp[gK c hN,h0,Sh.cont,AM,hlen]
end RC
