import Derived.Test.YtfkncfjpobjbjaaMEH
set_option linter.all false
namespace RC
theorem Oq {m:Aj}{w:Int}(hw:Bh w)(hW:m.words.length<=1048576)(hI :∀x∈m.words,Bh x)(XY :∀x∈m.free,Bh x){N:Nat}(hN:2000000<=N):∃v,Dy N m w=some v/\Dx N m w=some v:=by
 obtain⟨o,b,h1,h2,h3⟩:=PH hW hI XY hN;obtain⟨b',h4,h5⟩:=O5 hW hI XY hN;obtain rfl:=MG h2 h5;unfold Dy Dx;rw[h1,h4];simp only[Rp];cases b with
 | false=>exact⟨-1,by simp,by simp⟩
 | true=>
  obtain⟨A,C,V,rfl⟩:=h3 rfl;have H:=Gu hW V.Hg;have X3:=H.len;have hs:=Ep H.Cf V.zero V.fix;obtain⟨e1,e2⟩:=ES hs;have hC:∀i,i<A.length->∃c,C[i]?=some c/\c.count=Ix m.words A i:=λi hi=>by
   obtain⟨a,ha,_⟩:=BL hi;obtain⟨c,g1,g2,_⟩:=e2 i a ha;exact⟨c,g1,by unfold Ix;rw[ha];exact g2⟩
  have fE:∀b∈A,b<=1048576:=λb hb=>by have:=(H.Cf b hb).h2;omega
  rw[G9 fE hC hw];unfold EC BV;rw[GB hW hN,V.Hg];simp only[Rp,Sw,R4,Sa];have kU:=hw.1;have fV:=hw.2;by_cases hp:1000<=w
  ·rw[R1 (show decide (1000<=w)=true by simpa using hp),Ao (n:=w-1000) (by omega) (by omega),JS (by simp;omega) _ hN,Ie (by omega) _ hN,Ln,R1 hp];simp only[Rp];cases hq:C9 A (w-1000) with
   | none=>
    have Yg:w-1000 ∉ A.map Int.ofNat:=λhm=>by
     obtain⟨a,ha,e⟩:=R9.1 hm;exact HF hq a ha e
    rw[R0 (by simpa using Yg)];exact⟨-1,by simp,by simp⟩
   | some i=>
    obtain⟨a,ha,e⟩:=D5 hq;have hm:=Ro ha;have G:=H.Cf a hm;have h2:=G.h2;have h0:=G.c0;have fH:w-1000∈A.map Int.ofNat:=R9.2 ⟨a,hm,e⟩;have aM:Ix m.words A i=wd m.words a:=by unfold Ix;rw[ha]
    rw[R1 (by simpa using fH),<- e,gw (by omega)];simp only[Rp,aM];by_cases h3:wd m.words a=0
    ·exact⟨-1,by simp[h3],by simp[h3]⟩
    ·exact⟨(i:Int),by simp[h3,show 0<wd m.words a by omega],by simp[h3]⟩
  ·rw[R0 (show ¬ decide (1000<=w)=true by simpa using hp),Ln,R0 hp];exact⟨-1,by simp,by simp⟩
theorem Gg {m:Aj}{w:Int}(H:HW m)(hw:Bh w):Cb 2000000 m w=some true:=by
 unfold Cb;rw[Lq H,Rp];by_cases hs:m.words.length+m.free.length<=1048576
 ·have hN:=R3 2000000;have hW:m.words.length<=1048576:=by omega
  have hF:m.free.length<=1048576:=by omega
  obtain⟨v,h1,h2⟩:=Oq hw hW H.words.1 H.free.1 hN;rw[R1 hs,R0 (by simp;omega),Lg hW hF hN,Rp,h1];simp only[Rp];rw[h2];simp only[Rp];rw[R0 (by simp),LF hW hF hN];simp
 ·simp[hs]
end RC
