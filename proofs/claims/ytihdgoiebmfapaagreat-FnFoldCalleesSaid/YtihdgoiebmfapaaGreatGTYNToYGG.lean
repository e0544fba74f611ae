import Derived.Test.YtihdgoiebmfapaaGreatGHADefsToFEDefs
import Derived.Test.YtihdgoiebmfapaaGreatKTA
import Derived.Test.YtihdgoiebmfapaaGreatGTYEToYGF
import Derived.Test.YtihdgoiebmfapaaGreatGPlainAToTYD
namespace RC
open Go
theorem bu:D9 (.mk [] []):=⟨⟨⟨(by intro d h;cases h),(by simp[AP.decls])⟩,(by intro d h;cases h),(by simp[AP.funcs])⟩,(by simp[T5,AP.decls,AP.funcs])⟩
theorem QS {p:AP}(S:D9 p):p.decls.length<=1048576/\∀d∈p.decls,dz d<=1048576:=by
 have hz:=S.size;unfold T5 at hz;exact⟨by omega,λd hd=>by have:=LU dz hd;omega⟩
theorem YC {p:AP}{f:Ac}:FT (FM p (FT p)) (.mk f.params f.result (FT p f))=FT p f:=jm
theorem bS {p:AP}:FM (FM p (FT p)) (FT (FM p (FT p)))=FM p (FT p):=by
 show AP.mk p.decls ((p.funcs.map _).map _)=.mk p.decls (p.funcs.map _);rw[nU];congr 1;refine mH λf _=>?_;show Ac.mk f.params f.result (FT (FM p (FT p)) (.mk f.params f.result (FT p f)))=_;rw[YC]
theorem Zj {p:AP}(S:D9 p){N:Nat}(hN:2000000<=N):
  (KD N p=some (.mk [] [],false)/\JI N p=some (.mk [] [],false))∨
  (Be N p=some true/\KD N p=some (FM p (FT p),true)/\JI N p=some (FM p (FT p),true)/\D9 (FM p (FT p))/\Be N (FM p (FT p))=some true/\Cw N (FM p (FT p))=some true/\JI N (FM p (FT p))=some (FM p (FT p),true)):=by
 obtain⟨b,e1,e2,e3,e4⟩:=Vh S hN (QS S).1 (QS S).2;cases b with
 | false=>exact .inl ⟨e3,e4⟩
 | true=>
  rw[ld rfl]at e3 e4;by_cases h:(p.funcs.all λf=>decide (en (FT p f)<=30))=true
  ·have wJ:∀f∈p.funcs,en (FT p f)<=30:=λf hf=>by simpa using lh.1 h f hf
   rw[bV wJ]at e3 e4;obtain⟨a,a2,c⟩:=gW S hN e1 wJ;obtain⟨b',f1,_,_,f4⟩:=Vh c hN (QS c).1 (QS c).2;have a0:=a;rw[a]at f1;cases f1;rw[ld rfl,bV (λf hf=>by
    obtain⟨f0,h0,rfl⟩:=mA.1 (show f∈p.funcs.map _ from hf);rw[YC];exact wJ f0 h0),bS]at f4
   exact .inr ⟨e1,e3,e4,c,a,a2,f4⟩
  ·unfold wB at e3 e4;rw[la h]at e3 e4;exact .inl ⟨e3,e4⟩
theorem XI {code:List Int}(h8:IV U8 code)(hl:code.length<=1048576):∃p,JT 2000000 code=some p/\PD p:=by
 have hN:(2000000:Nat)<=2000000:=ll _;unfold JT;refine Ag.bind (Wr h8.1 (by omega)) λq3 ⟨Bb,hq⟩=>?_;exact Ag.bind (Uo Bb hN (by omega) (by omega)) λq5 ⟨P,_,_⟩=>Ag.some P
end RC
namespace RC
open Go
theorem Q2 {p:AP}{F:Nat}(P:PO p F){k:Nat}(hk:k<F){N:Nat}(hN:2000000<=N)(hv:Cw N p=some true):HR N p (k:Int)=some (cl p F k):=by
 obtain⟨g,hg,_⟩:=Bz (l:=p.funcs) (i:=k) (by rw[P.len];omega);unfold HR;rw[hv];have b1:decide ((k:Int)<0)=false:=pF (by omega);have b2:decide ((F:Int)<=(k:Int))=false:=pF (by omega);simp only[lS,nA,lY,mC,b1,AM,P.len,b2];rw[XD P hg hN];simp only[lS];rw[aM P hN];rfl
theorem iK {l:List Int}{x:Int}(hl:l.length<=1048576){N i:Nat}(hi:i<=l.length)(hN:l.length-i<N):GS l x N i=some (if x∈l.drop i then Sum.inl true else Sum.inr ()):=by
 refine Bi l.length (λN i=>GS l x N i=some (if x∈l.drop i then Sum.inl true else Sum.inr ())) ?_ ?_ hi hN
 ·intro n;rw[GS,la (by simp[AM])];simp
 ·intro n i hi ih;obtain⟨y,hy,_⟩:=Bz hi;rw[GS,ld (by simp[AM];omega),BG hy,drop_cons hy];simp only[lS,lk];rw[BJ (by omega) (by omega),show ((i:Int)+1)=((i+1:Nat):Int) by omega];by_cases h:y=x
  ·simp[h]
  ·have h':¬ x=y:=λe=>h e.symm;rw[la (by simpa using h),ih];simp[h']
theorem lO {l:List Int}{x:Int}(hl:l.length<=1048576){N:Nat}(hN:2000000<=N):MV N l x=some (decide (x∈l)):=by
 unfold MV;have:=iK (x:=x) hl (mB _) (by omega:l.length-0<N);rw[show ((0:Nat):Int)=0 from rfl,nQ]at this;rw[this];by_cases h:x∈l<;>simp[h,Sh.cont]
end RC
