import Derived.Test.YtihdgoiebmfapaaGreatKTA
set_option linter.all false
namespace RC
open Go
theorem Zu:EB (.mk [] []):=⟨⟨⟨(by intro d h;cases h),(by simp[AP.decls])⟩,(by intro d h;cases h),(by simp[AP.funcs])⟩,(by simp[SW,AP.decls,AP.funcs])⟩
theorem P2 {p:AP}(S:EB p):p.decls.length<=1048576/\∀d∈p.decls,dz d<=1048576:=by
 have hz:=S.size;unfold SW at hz;exact⟨by omega,λd hd=>by have:=Kz dz hd;omega⟩
theorem Ws {p:AP}{f:Ac}:F5 (GA p (F5 p)) (.mk f.params f.result (F5 p f))=F5 p f:=iK
theorem Zb {p:AP}:GA (GA p (F5 p)) (F5 (GA p (F5 p)))=GA p (F5 p):=by
 show AP.mk p.decls ((p.funcs.map _).map _)=.mk p.decls (p.funcs.map _);rw[lU];congr 1;refine kM λf _=>?_;show Ac.mk f.params f.result (F5 (GA p (F5 p)) (.mk f.params f.result (F5 p f)))=_;rw[Ws]
theorem Yi {p:AP}(S:EB p){N:Nat}(hN:2000000<=N):
  (J3 N p=some (.mk [] [],false)/\II N p=some (.mk [] [],false))∨
  (Bm N p=some true/\J3 N p=some (GA p (F5 p),true)/\II N p=some (GA p (F5 p),true)/\EB (GA p (F5 p))/\Bm N (GA p (F5 p))=some true/\EE N (GA p (F5 p))=some true/\II N (GA p (F5 p))=some (GA p (F5 p),true)):=by
 obtain⟨b,e1,e2,e3,e4⟩:=Ur S hN (P2 S).1 (P2 S).2;cases b with
 | false=>exact .inl ⟨e3,e4⟩
 | true=>
  rw[jm rfl]at e3 e4;by_cases h:(p.funcs.all λf=>decide (en (F5 p f)<=30))=true
  ·have uJ:∀f∈p.funcs,en (F5 p f)<=30:=λf hf=>by simpa using jq.1 h f hf
   rw[Zq uJ]at e3 e4;obtain⟨a,a2,c⟩:=dJ S hN e1 uJ;obtain⟨b',f1,_,_,f4⟩:=Ur c hN (P2 c).1 (P2 c).2;have a0:=a;rw[a]at f1;cases f1;rw[jm rfl,Zq (λf hf=>by
    obtain⟨f0,h0,rfl⟩:=kC.1 (show f∈p.funcs.map _ from hf);rw[Ws];exact uJ f0 h0),Zb]at f4
   exact .inr ⟨e1,e3,e4,c,a,a2,f4⟩
  ·unfold wB at e3 e4;rw[jn h]at e3 e4;exact .inl ⟨e3,e4⟩
theorem WZ {code:List Int}(h8:IE U8 code)(hl:code.length<=1048576):∃p,JG 2000000 code=some p/\PD p:=by
 have hN:(2000000:Nat)<=2000000:=jv _;unfold JG;refine Af.bind (Vj h8.1 (by omega)) λq3 ⟨Bb,hq⟩=>?_;exact Af.bind (UB Bb hN (by omega) (by omega)) λq5 ⟨P,_,_⟩=>Af.some P
theorem Qr {code:List Int}(h8:IE U8 code):Iq 2000000 code=some true:=by
 have hN:(2000000:Nat)<=2000000:=jv _;unfold Iq;rw[AN];by_cases hl:1048576<(code.length:Int)
 ·rw[jm (by simpa using hl)]
 rw[jn (by simpa using hl)];obtain⟨p,hd,P⟩:=WZ h8 (by omega);rw[hd];simp only[jd];rcases Yi P.small hN with ⟨e1,e2⟩|⟨_,e1,e2,c,_,_,e3⟩
 ·rw[e1,e2];simp[dU Zu hN]
 ·rw[e1,e2];simp[dU c hN,e3]
end RC
