import Derived.Test.YtihdgoiebmfapaaGreatKTA
set_option linter.all false
namespace RC
open Go
theorem bt:D9 (.mk [] []):=⟨⟨⟨(by intro d h;cases h),(by simp[AP.decls])⟩,(by intro d h;cases h),(by simp[AP.funcs])⟩,(by simp[TU,AP.decls,AP.funcs])⟩
theorem QS {p:AP}(S:D9 p):p.decls.length<=1048576/\∀d∈p.decls,dz d<=1048576:=by
 have hz:=S.size;unfold TU at hz;exact⟨by omega,λd hd=>by have:=Ld dz hd;omega⟩
theorem YC {p:AP}{f:Ac}:FU (FJ p (FU p)) (.mk f.params f.result (FU p f))=FU p f:=jT
theorem aa {p:AP}:FJ (FJ p (FU p)) (FU (FJ p (FU p)))=FJ p (FU p):=by
 show AP.mk p.decls ((p.funcs.map _).map _)=.mk p.decls (p.funcs.map _);rw[nU];congr 1;refine mH λf _=>?_;show Ac.mk f.params f.result (FU (FJ p (FU p)) (.mk f.params f.result (FU p f)))=_;rw[YC]
theorem Zn {p:AP}(S:D9 p){N:Nat}(hN:2000000<=N):
  (KE N p=some (.mk [] [],false)/\JX N p=some (.mk [] [],false))∨
  (Be N p=some true/\KE N p=some (FJ p (FU p),true)/\JX N p=some (FJ p (FU p),true)/\D9 (FJ p (FU p))/\Be N (FJ p (FU p))=some true/\Cw N (FJ p (FU p))=some true/\JX N (FJ p (FU p))=some (FJ p (FU p),true)):=by
 obtain⟨b,e1,e2,e3,e4⟩:=VU S hN (QS S).1 (QS S).2;cases b with
 | false=>exact .inl ⟨e3,e4⟩
 | true=>
  rw[ld rfl]at e3 e4;by_cases h:(p.funcs.all λf=>decide (en (FU p f)<=30))=true
  ·have wL:∀f∈p.funcs,en (FU p f)<=30:=λf hf=>by simpa using lh.1 h f hf
   rw[bY wL]at e3 e4;obtain⟨a,a2,c⟩:=ek S hN e1 wL;obtain⟨b',f1,_,_,f4⟩:=VU c hN (QS c).1 (QS c).2;have a0:=a;rw[a]at f1;cases f1;rw[ld rfl,bY (λf hf=>by
    obtain⟨f0,h0,rfl⟩:=mA.1 (show f∈p.funcs.map _ from hf);rw[YC];exact wL f0 h0),aa]at f4
   exact .inr ⟨e1,e3,e4,c,a,a2,f4⟩
  ·unfold wB at e3 e4;rw[la h]at e3 e4;exact .inl ⟨e3,e4⟩
theorem XH {code:List Int}(h8:IU U8 code)(hl:code.length<=1048576):∃p,JY 2000000 code=some p/\PD p:=by
 have hN:(2000000:Nat)<=2000000:=ll _;unfold JY;refine Ag.bind (Wt h8.1 (by omega)) λq3 ⟨Bb,hq⟩=>?_;exact Ag.bind (Un Bb hN (by omega) (by omega)) λq5 ⟨P,_,_⟩=>Ag.some P
end RC
namespace RC
open Go
theorem Q3 {p:AP}{F:Nat}(P:PO p F){k:Nat}(hk:k<F){N:Nat}(hN:2000000<=N)(hv:Cw N p=some true):HK N p (k:Int)=some (cl p F k):=by
 obtain⟨g,hg,_⟩:=Bz (l:=p.funcs) (i:=k) (by rw[P.len];omega);unfold HK;rw[hv];have b1:decide ((k:Int)<0)=false:=pF (by omega);have b2:decide ((F:Int)<=(k:Int))=false:=pF (by omega);simp only[lS,nA,lY,mC,b1,AM,P.len,b2];rw[XT P hg hN];simp only[lS];rw[aA P hN];rfl
theorem ik {l:List Int}{x:Int}(hl:l.length<=1048576){N i:Nat}(hi:i<=l.length)(hN:l.length-i<N):GP l x N i=some (if x∈l.drop i then Sum.inl true else Sum.inr ()):=by
 refine Bh l.length (λN i=>GP l x N i=some (if x∈l.drop i then Sum.inl true else Sum.inr ())) ?_ ?_ hi hN
 ·intro n;rw[GP,la (by simp[AM])];simp
 ·intro n i hi ih;obtain⟨y,hy,_⟩:=Bz hi;rw[GP,ld (by simp[AM];omega),BG hy,drop_cons hy];simp only[lS,lk];rw[BJ (by omega) (by omega),show ((i:Int)+1)=((i+1:Nat):Int) by omega];by_cases h:y=x
  ·simp[h]
  ·have h':¬ x=y:=λe=>h e.symm;rw[la (by simpa using h),ih];simp[h']
theorem lM {l:List Int}{x:Int}(hl:l.length<=1048576){N:Nat}(hN:2000000<=N):Mz N l x=some (decide (x∈l)):=by
 unfold Mz;have:=ik (x:=x) hl (mB _) (by omega:l.length-0<N);rw[qU,nQ]at this;rw[this];by_cases h:x∈l<;>simp[h,Sh.cont]
end RC
