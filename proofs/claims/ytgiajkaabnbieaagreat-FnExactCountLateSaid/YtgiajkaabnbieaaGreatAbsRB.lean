import Derived.Test.YtgiajkaabnbieaaGreatAbsR
set_option linter.all false
namespace Go.Abs
open Go RC Go.ChangeShapes Go.WideShapes Go.ChangeAt Go.RowKit
section
variable {H : Type} {encH : TypeId × Value -> H} {P : Program} {w : World}
def XE {α:Type}(encH:TypeId×Value->H)(P:Program)(w:World)(N:Nat)(T:TypeId)(enc:α->List AV)(se:α->Prop):Prop:=
 ∀fuel cs x,fuel<N->DataW.trod encH P w 0 (λ_=>true) true fuel T cs=some x->∃a,Ba (Old w) w [] (enc a) cs/\(∀c∈enc a,c.leaf=true)/\se a
theorem XE.rd {α:Type}{T:TypeId}{enc:α->List AV}{se:α->Prop}(h :∀N,XE encH P w N T enc se):Rd encH P w T enc se:=λfuel cs x hx=>h (fuel+1) fuel cs x (Nat.lt_succ_self _) hx
theorem XE.slice {α:Type}{N:Nat}{T e:TypeId}{enc:α->List AV}{se:α->Prop}(hu:P.underlying T=some (.slice e))(rP:0<P.cellsOf e)(hE:XE encH P w N e enc se):
  XE encH P w (N+1) T (eS enc) (FO se):=λfuel cs x hN h=>by
 rcases DataW.trod_slice hu h with ⟨rfl,_⟩|⟨a,len,cap,elems,rest,n,hfu,rfl,_,_,hl,hm,hlen,yS,_,_⟩
 ·exact⟨[],by simp[eS,Ba,Ae],by simp[eS,AV.leaf],by simp[FO]⟩
 ·have hn:n<N:=by omega
  have hex:∀i,i<len->∃p:α×List Value,w.cells? 0 (a.add (i*P.cellsOf e)) (P.cellsOf e)=some p.2/\Ba (Old w) w [] (enc p.1) p.2/\(∀c∈enc p.1,c.leaf=true)/\se p.1:=λi hi=>by
   have h1:=yS i hi;rw[mH (by omega)]at h1;obtain⟨cs',h1,h2⟩:=mn.1 h1;obtain⟨y,h3,h4,h5⟩:=hE _ _ _ hn h2;exact⟨(y,cs'),h1,h3,h4,h5⟩
  rcases Nat.eq_zero_or_pos len with h0|h0
  ·subst h0;refine⟨[],?_,by simp[eS,AV.leaf],by simp[FO]⟩;simp[eS,Ba,Ae]
  ·obtain⟨p0,_⟩:=hex 0 h0
   let d:Inhabited (α×List Value):=⟨p0⟩
   obtain⟨f,hf⟩:=Deep.choose_lt hex;have wG:=λi hi=>V4 (hf i hi).1 rP;have tF:∀i,(a.add i).block=a.block/\(a.add i).off=a.off+i:=λi=>by
    unfold Addr.add;by_cases hj:i=0<;>simp[hj]
   obtain⟨hs0,zh,_,_⟩:=wG 0 h0;have ha:a.spot=none:=by simpa [Addr.add] using hs0
   obtain⟨b,off,sp⟩:=a;simp only at ha;subst ha;refine⟨(List.range len).map λi=>(f i).1,?_,by simp[eS,AV.leaf],?_,by simp[maxLen]at hm⊢;omega⟩
   ·simp only[eS,Ba,Ae];refine⟨_,[],rfl,⟨_,cap,by simp,by simp;omega,λ_=>⟨b,off,P.cellsOf e,rfl,by unfold Old;simpa [tF] using zh,λy hy=>?_,?_⟩⟩,rfl⟩
    ·simp only[mU,oL]at hy;obtain⟨_,⟨i,hi,rfl⟩,rfl⟩:=hy;rw[<- BJ (hf i hi).2.1];exact (wG i hi).2.2.1
    ·refine Jc (size:=P.cellsOf e) (λy hy=>?_) λi y hy=>?_
     ·simp only[mU,oL]at hy;obtain⟨_,⟨i,hi,rfl⟩,rfl⟩:=hy;rw[<- BJ (hf i hi).2.1];exact (wG i hi).2.2.1
     ·simp only[mG,mK]at hy;obtain⟨_,⟨i',tO,rfl⟩,rfl⟩:=hy;have rJ:i<len:=by
       have:=(mC.1 tO).1;simpa using this
      have uT:i'=i:=by
       rw[nb rJ]at tO;simpa using tO.symm
      subst uT;refine Ii λj c hc=>?_;obtain⟨u,sa,hr⟩:=CD (hf i' rJ).2.1 j c hc;have:=(wG i' rJ).2.2.2 j u sa;simp only[tF]at this;exact⟨u,this,(hf i' rJ).2.2.1 c (mB hc),hr⟩
   ·intro y hy;simp only[mU,oL]at hy;obtain⟨i,hi,rfl⟩:=hy;exact (hf i hi).2.2.2
theorem Yg {T:TypeId}{fs:Array Field}{fuel:Nat}{cs:List Value}{x:DataW H×List MemPlace}(hu:P.underlying T=some (.struct fs))(h:DataW.trod encH P w 0 (λ_=>true) true fuel T cs=some x):
  cs.length=P.cellsOf T/\∃n,fuel=n+1/\∀(i:Nat) (f:Field),fs[i]?=some f->∃y,DataW.trod encH P w 0 (λ_=>true) true n f.type ((cs.drop f.offset).take (P.cellsOf f.type))=some y:=by
 obtain⟨xs,n,hfu,_,hl,hlen,hf⟩:=DataW.trod_struct hu h;refine⟨hl,n,hfu,λi f xZ=>?_⟩;have:=hf i f xZ;have hi:i<xs.length:=by rw[hlen];exact (mq.1 xZ).1
 rw[mH hi]at this;exact⟨_,this⟩
end
end Go.Abs
