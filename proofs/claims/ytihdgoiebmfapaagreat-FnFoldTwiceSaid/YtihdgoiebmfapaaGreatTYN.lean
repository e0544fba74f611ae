import Derived.Test.YtihdgoiebmfapaaGreatGHADefsToFTDefs
import Derived.Test.YtihdgoiebmfapaaGreatKTA
import Derived.Test.YtihdgoiebmfapaaGreatGTYFToYGF
namespace RC
open Go
theorem aX:EE (.mk [] []):=⟨⟨⟨(by intro d h;cases h),(by simp[AP.decls])⟩,(by intro d h;cases h),(by simp[AP.funcs])⟩,(by simp[Sz,AP.decls,AP.funcs])⟩
theorem P2 {p:AP}(S:EE p):p.decls.length<=1048576/\∀d∈p.decls,dz d<=1048576:=by
 have hz:=S.size;unfold Sz at hz;exact⟨by omega,λd hd=>by have:=LR dz hd;omega⟩
theorem W9 {p:AP}{f:Ac}:F5 (GA p (F5 p)) (.mk f.params f.result (F5 p f))=F5 p f:=iH
theorem Zr {p:AP}:GA (GA p (F5 p)) (F5 (GA p (F5 p)))=GA p (F5 p):=by
 show AP.mk p.decls ((p.funcs.map _).map _)=.mk p.decls (p.funcs.map _);rw[lU];congr 1;refine kM λf _=>?_;show Ac.mk f.params f.result (F5 (GA p (F5 p)) (.mk f.params f.result (F5 p f)))=_;rw[W9]
theorem YK {p:AP}(S:EE p){N:Nat}(hN:2000000<=N):
  (Jw N p=some (.mk [] [],false)/\IE N p=some (.mk [] [],false))∨
  (Bm N p=some true/\Jw N p=some (GA p (F5 p),true)/\IE N p=some (GA p (F5 p),true)/\EE (GA p (F5 p))/\Bm N (GA p (F5 p))=some true/\EH N (GA p (F5 p))=some true/\IE N (GA p (F5 p))=some (GA p (F5 p),true)):=by
 obtain⟨b,e1,e2,e3,e4⟩:=Uf S hN (P2 S).1 (P2 S).2;cases b with
 | false=>exact .inl ⟨e3,e4⟩
 | true=>
  rw[jm rfl]at e3 e4;by_cases h:(p.funcs.all λf=>decide (en (F5 p f)<=30))=true
  ·have h30:∀f∈p.funcs,en (F5 p f)<=30:=λf hf=>by simpa using jq.1 h f hf
   rw[aT h30]at e3 e4;obtain⟨a,a2,c⟩:=dm S hN e1 h30;obtain⟨b',f1,_,_,f4⟩:=Uf c hN (P2 c).1 (P2 c).2;have a0:=a;rw[a]at f1;cases f1;rw[jm rfl,aT (λf hf=>by
    obtain⟨f0,h0,rfl⟩:=kC.1 (show f∈p.funcs.map _ from hf);rw[W9];exact h30 f0 h0),Zr]at f4
   exact .inr ⟨e1,e3,e4,c,a,a2,f4⟩
  ·unfold wB at e3 e4;rw[jn h]at e3 e4;exact .inl ⟨e3,e4⟩
theorem WZ {code:List Int}(h8:IH U8 code)(hl:code.length<=1048576):∃p,JJ 2000000 code=some p/\PD p:=by
 have hN:(2000000:Nat)<=2000000:=jv _;unfold JJ;refine Ag.bind (Uz h8.1 (by omega)) λq3 ⟨Bb,hq⟩=>?_;exact Ag.bind (UI Bb hN (by omega) (by omega)) λq5 ⟨P,_,_⟩=>Ag.some P
theorem Qp {code:List Int}(h8:IH U8 code):Ip 2000000 code=some true:=by
 have hN:(2000000:Nat)<=2000000:=jv _;unfold Ip;rw[AN];by_cases hl:1048576<(code.length:Int)
 ·rw[jm (by simpa using hl)]
 rw[jn (by simpa using hl)];obtain⟨p,hd,P⟩:=WZ h8 (by omega);rw[hd];simp only[jd];rcases YK P.small hN with ⟨e1,e2⟩|⟨_,e1,e2,c,_,_,e3⟩
 ·rw[e1,e2];simp[dG aX hN]
 ·rw[e1,e2];simp[dG c hN,e3]
end RC
