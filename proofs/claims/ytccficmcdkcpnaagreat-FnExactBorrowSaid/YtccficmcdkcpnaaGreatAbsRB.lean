import Derived.Test.YtccficmcdkcpnaaGreatAbsR
set_option linter.all false
namespace Go.Abs
open Go RC Go.ChangeShapes Go.WideShapes Go.ChangeAt Go.RowKit
section
variable {H : Type} {encH : TypeId × Value -> H} {P : Program} {w : World}
def WO {α:Type}(encH:TypeId×Value->H)(P:Program)(w:World)(N:Nat)(T:TypeId)(enc:α->List AV)(tU:α->Prop):Prop:=
 ∀fuel cs x,fuel<N->DataW.trod encH P w 0 (λ_=>true) true fuel T cs=some x->∃a,A7 (Old w) w [] (enc a) cs/\(∀c∈enc a,c.leaf=true)/\tU a
theorem WO.rd {α:Type}{T:TypeId}{enc:α->List AV}{tU:α->Prop}(h :∀N,WO encH P w N T enc tU):Rd encH P w T enc tU:=λfuel cs x hx=>h (fuel+1) fuel cs x (Nat.lt_succ_self _) hx
theorem WO.slice {α:Type}{N:Nat}{T e:TypeId}{enc:α->List AV}{tU:α->Prop}(hu:P.underlying T=some (.slice e))(ru:0<P.cellsOf e)(hE:WO encH P w N e enc tU):
  WO encH P w (N+1) T (eS enc) (Ep tU):=λfuel cs x hN h=>by
 rcases DataW.trod_slice hu h with ⟨rfl,_⟩|⟨a,len,cap,elems,rest,n,hfu,rfl,_,_,hl,hm,hlen,yE,_,_⟩
 ·exact⟨[],by simp[eS,A7,AU],by simp[eS,AV.leaf],by simp[Ep]⟩
 ·have hn:n<N:=by omega
  have hex:∀i,i<len->∃p:α×List Value,w.cells? 0 (a.add (i*P.cellsOf e)) (P.cellsOf e)=some p.2/\A7 (Old w) w [] (enc p.1) p.2/\(∀c∈enc p.1,c.leaf=true)/\tU p.1:=λi hi=>by
   have h1:=yE i hi;rw[mY (by omega)]at h1;obtain⟨cs',h1,h2⟩:=nK.1 h1;obtain⟨y,h3,h4,h5⟩:=hE _ _ _ hn h2;exact⟨(y,cs'),h1,h3,h4,h5⟩
  rcases Nat.eq_zero_or_pos len with h0|h0
  ·subst h0;refine⟨[],?_,by simp[eS,AV.leaf],by simp[Ep]⟩;simp[eS,A7,AU]
  ·obtain⟨p0,_⟩:=hex 0 h0
   let d:Inhabited (α×List Value):=⟨p0⟩
   obtain⟨f,hf⟩:=Deep.choose_lt hex;have wR:=λi hi=>Vg (hf i hi).1 ru;have tr:∀i,(a.add i).block=a.block/\(a.add i).off=a.off+i:=λi=>by
    unfold Addr.add;by_cases hj:i=0<;>simp[hj]
   obtain⟨hs0,zQ,_,_⟩:=wR 0 h0;have ha:a.spot=none:=by simpa [Addr.add] using hs0
   obtain⟨b,off,sp⟩:=a;simp only at ha;subst ha;refine⟨(List.range len).map λi=>(f i).1,?_,by simp[eS,AV.leaf],?_,by simp[maxLen]at hm⊢;omega⟩
   ·simp only[eS,A7,AU];refine⟨_,[],rfl,⟨_,cap,by simp,by simp;omega,λ_=>⟨b,off,P.cellsOf e,rfl,by unfold Old;simpa [tr] using zQ,λy hy=>?_,?_⟩⟩,rfl⟩
    ·simp only[mu,ot]at hy;obtain⟨_,⟨i,hi,rfl⟩,rfl⟩:=hy;rw[<- A3 (hf i hi).2.1];exact (wR i hi).2.2.1
    ·refine IT (size:=P.cellsOf e) (λy hy=>?_) λi y hy=>?_
     ·simp only[mu,ot]at hy;obtain⟨_,⟨i,hi,rfl⟩,rfl⟩:=hy;rw[<- A3 (hf i hi).2.1];exact (wR i hi).2.2.1
     ·simp only[mX,mZ]at hy;obtain⟨_,⟨i',tz,rfl⟩,rfl⟩:=hy;have rh:i<len:=by
       have:=(mT.1 tz).1;simpa using this
      have wD:i'=i:=by
       rw[oe rh]at tz;simpa using tz.symm
      subst wD;refine HY λj c hc=>?_;obtain⟨u,tZ,hr⟩:=BQ (hf i' rh).2.1 j c hc;have:=(wR i' rh).2.2.2 j u tZ;simp only[tr]at this;exact⟨u,this,(hf i' rh).2.2.1 c (mS hc),hr⟩
   ·intro y hy;simp only[mu,ot]at hy;obtain⟨i,hi,rfl⟩:=hy;exact (hf i hi).2.2.2
theorem YL {T:TypeId}{fs:Array Field}{fuel:Nat}{cs:List Value}{x:DataW H×List MemPlace}(hu:P.underlying T=some (.struct fs))(h:DataW.trod encH P w 0 (λ_=>true) true fuel T cs=some x):
  cs.length=P.cellsOf T/\∃n,fuel=n+1/\∀(i:Nat) (f:Field),fs[i]?=some f->∃y,DataW.trod encH P w 0 (λ_=>true) true n f.type ((cs.drop f.offset).take (P.cellsOf f.type))=some y:=by
 obtain⟨xs,n,hfu,_,hl,hlen,hf⟩:=DataW.trod_struct hu h;refine⟨hl,n,hfu,λi f wi=>?_⟩;have:=hf i f wi;have hi:i<xs.length:=by rw[hlen];exact (nN.1 wi).1
 rw[mY hi]at this;exact⟨_,this⟩
end
end Go.Abs
