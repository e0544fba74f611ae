import Derived.Test.YtihdgoiebmfapaaGreatGTYNToYGG
namespace RC
open Go
theorem aa {l m:List Int}(hl:l.length<=1048576)(hm:m.length<=1048576)(h :∀x∈l,x∈m){N:Nat}(hN:2000000<=N):Kn N l m=some true:=by
 have key:∀{M i:Nat},i<=l.length->l.length-i<M->FR N l m M i=some (Sum.inr ()):=by
  intro M i hi hM;refine Bi l.length (λM i=>FR N l m M i=some (Sum.inr ())) ?_ ?_ hi hM
  ·intro n;rw[FR,la (by simp[AM])]
  ·intro n i hi ih;obtain⟨x,hx,te⟩:=Bz hi;rw[FR,ld (by simp[AM];omega),BG hx];simp only[lS];rw[ky hm hN,BJ (by omega) (by omega),show ((i:Int)+1)=((i+1:Nat):Int) by omega];simpa [h x te] using ih
 unfold Kn;have:=key (mB _) (by omega:l.length-0<N);rw[qU]at this;rw[this];rfl
theorem eP {p:AP}{k:Nat}{x:Int}(h:x∈Wu (FK p (FX p)) k):x∈Wu p k:=by
 unfold Wu at h⊢;have e:(FK p (FX p)).funcs[k]?=(p.funcs[k]?).map λf=>Ac.mk f.params f.result (FX p f):=by
  show (p.funcs.map _)[k]?=_;rw[lW]
 rw[e]at h;cases hf:p.funcs[k]? with
 | none=>rw[hf]at h;exact h
 | some f=>
  rw[hf]at h;exact fv _ f.body f.params.length (ll _) h
theorem Pg {code:List Int}(h8:IX U8 code):Hw 2000000 code=some true:=by
 have hN:(2000000:Nat)<=2000000:=ll _;unfold Hw;rw[AM];by_cases hl:1048576<(code.length:Int)
 ·rw[ld (by simpa using hl)]
 rw[la (by simpa using hl)];obtain⟨p,hd,P⟩:=XZ h8 (by omega);rw[hd];simp only[lS];rcases Za P.small hN with ⟨e1,e2⟩|⟨hv,e1,e2,c,a1,a2,_⟩
 ·rw[e1,e2];simp[fV bH hN]
 ·rw[e1,e2];have P1:=Xu P.small hN hv;have P2:=Xu c hN a1;have v1:Cw 2000000 p=some true:=by
   obtain⟨b,f1,f2,_⟩:=G6 P.small hN;rw[hv]at f1;cases f1;exact f2
  have hF:=P1.le;have hlen:(FK p (FX p)).funcs.length=p.funcs.length:=by show (p.funcs.map _).length=_;rw[ly]
  have key:∀{M i:Nat},i<=p.funcs.length->p.funcs.length-i<M->DC 2000000 p (FK p (FX p),true) M i=some (Sum.inr ()):=by
   intro M i hi hM;refine Bi p.funcs.length (λM i=>DC 2000000 p (FK p (FX p),true) M i=some (Sum.inr ())) ?_ ?_ hi hM
   ·intro n;rw[DC,la (by simp[AM])]
   ·intro n i hi ih;have n1:¬ (p.funcs.length:Int)<=(i:Int):=by omega
    have c1:=cy (p:=p) (F:=p.funcs.length) (k:=i);have c2:=cy (p:=FK p (FX p)) (F:=(FK p (FX p)).funcs.length) (k:=i);rw[DC,ld (by simp[AM];omega)];simp only[AM,hlen,n1,lx,lY,mC];rw[RA P2 (by omega) hN a2,RA P1 (by omega) hN v1];simp only[lS];rw[aa (by omega) (by omega) (λx hx=>(cU P1 x).2 (eP ((cU P2 x).1 hx))) hN,BJ (by omega) (by omega),show ((i:Int)+1)=((i+1:Nat):Int) by omega];simpa using ih
  have h0:=key (mB _) (by omega:p.funcs.length-0<2000000);rw[qU]at h0;simp[fV c hN,h0,Sh.cont,AM,hlen]
end RC
