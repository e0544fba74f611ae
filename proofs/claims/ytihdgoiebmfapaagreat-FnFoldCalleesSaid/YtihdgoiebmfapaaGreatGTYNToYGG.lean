import Derived.Test.YtihdgoiebmfapaaGreatKTA
namespace RC
open Go
theorem bH:EA (.mk [] []):=⟨⟨⟨(by intro d h;cases h),(by simp[AP.decls])⟩,(by intro d h;cases h),(by simp[AP.funcs])⟩,(by simp[Tc,AP.decls,AP.funcs])⟩
theorem QK {p:AP}(S:EA p):p.decls.length<=1048576/\∀d∈p.decls,dz d<=1048576:=by
 have hz:=S.size;unfold Tc at hz;exact⟨by omega,λd hd=>by have:=Lj dz hd;omega⟩
theorem Xz {p:AP}{f:Ac}:FX (FK p (FX p)) (.mk f.params f.result (FX p f))=FX p f:=ju
theorem cK {p:AP}:FK (FK p (FX p)) (FX (FK p (FX p)))=FK p (FX p):=by
 show AP.mk p.decls ((p.funcs.map _).map _)=.mk p.decls (p.funcs.map _);rw[nU];congr 1;refine mH λf _=>?_;show Ac.mk f.params f.result (FX (FK p (FX p)) (.mk f.params f.result (FX p f)))=_;rw[Xz]
theorem Za {p:AP}(S:EA p){N:Nat}(hN:2000000<=N):
  (KG N p=some (.mk [] [],false)/\JC N p=some (.mk [] [],false))∨
  (Bg N p=some true/\KG N p=some (FK p (FX p),true)/\JC N p=some (FK p (FX p),true)/\EA (FK p (FX p))/\Bg N (FK p (FX p))=some true/\Cw N (FK p (FX p))=some true/\JC N (FK p (FX p))=some (FK p (FX p),true)):=by
 obtain⟨b,e1,e2,e3,e4⟩:=Vs S hN (QK S).1 (QK S).2;cases b with
 | false=>exact .inl ⟨e3,e4⟩
 | true=>
  rw[ld rfl]at e3 e4;by_cases h:(p.funcs.all λf=>decide (en (FX p f)<=30))=true
  ·have wL:∀f∈p.funcs,en (FX p f)<=30:=λf hf=>by simpa using lh.1 h f hf
   rw[bC wL]at e3 e4;obtain⟨a,a2,c⟩:=fT S hN e1 wL;obtain⟨b',f1,_,_,f4⟩:=Vs c hN (QK c).1 (QK c).2;have a0:=a;rw[a]at f1;cases f1;rw[ld rfl,bC (λf hf=>by
    obtain⟨f0,h0,rfl⟩:=mA.1 (show f∈p.funcs.map _ from hf);rw[Xz];exact wL f0 h0),cK]at f4
   exact .inr ⟨e1,e3,e4,c,a,a2,f4⟩
  ·unfold wB at e3 e4;rw[la h]at e3 e4;exact .inl ⟨e3,e4⟩
theorem XZ {code:List Int}(h8:IX U8 code)(hl:code.length<=1048576):∃p,JK 2000000 code=some p/\PD p:=by
 have hN:(2000000:Nat)<=2000000:=ll _;unfold JK;refine Ag.bind (Wy h8.1 (by omega)) λq3 ⟨Bb,hq⟩=>?_;exact Ag.bind (Ud Bb hN (by omega) (by omega)) λq5 ⟨P,_,_⟩=>Ag.some P
end RC
namespace RC
open Go
theorem RA {p:AP}{F:Nat}(P:PO p F){k:Nat}(hk:k<F){N:Nat}(hN:2000000<=N)(hv:Cw N p=some true):HN N p (k:Int)=some (cl p F k):=by
 obtain⟨g,hg,_⟩:=Bz (l:=p.funcs) (i:=k) (by rw[P.len];omega);unfold HN;rw[hv];have b1:decide ((k:Int)<0)=false:=pF (by omega);have b2:decide ((F:Int)<=(k:Int))=false:=pF (by omega);simp only[lS,nA,lY,mC,b1,AM,P.len,b2];rw[XA P hg hN];simp only[lS];rw[aU P hN];rfl
theorem iw {l:List Int}{x:Int}(hl:l.length<=1048576){N i:Nat}(hi:i<=l.length)(hN:l.length-i<N):GM l x N i=some (if x∈l.drop i then Sum.inl true else Sum.inr ()):=by
 refine Bi l.length (λN i=>GM l x N i=some (if x∈l.drop i then Sum.inl true else Sum.inr ())) ?_ ?_ hi hN
 ·intro n;rw[GM,la (by simp[AM])];simp
 ·intro n i hi ih;obtain⟨y,hy,_⟩:=Bz hi;rw[GM,ld (by simp[AM];omega),BG hy,drop_cons hy];simp only[lS,lk];rw[BJ (by omega) (by omega),show ((i:Int)+1)=((i+1:Nat):Int) by omega];by_cases h:y=x
  ·simp[h]
  ·have h':¬ x=y:=λe=>h e.symm;rw[la (by simpa using h),ih];simp[h']
theorem ky {l:List Int}{x:Int}(hl:l.length<=1048576){N:Nat}(hN:2000000<=N):Mv N l x=some (decide (x∈l)):=by
 unfold Mv;have:=iw (x:=x) hl (mB _) (by omega:l.length-0<N);rw[qU,nQ]at this;rw[this];by_cases h:x∈l<;>simp[h,Sh.cont]
end RC
