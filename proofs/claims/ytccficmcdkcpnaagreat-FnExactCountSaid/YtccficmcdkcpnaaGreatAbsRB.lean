import Derived.Test.YtccficmcdkcpnaaGreatAbsR
set_option linter.all false
namespace Go.Abs
open Go RC Go.ChangeShapes Go.WideShapes Go.ChangeAt Go.RowKit
section
variable {H : Type} {encH : TypeId × Value -> H} {P : Program} {w : World}
def bt {α:Type}(encH:TypeId×Value->H)(P:Program)(w:World)(N:Nat)(T:TypeId)(enc:α->List AV)(good:α->Prop):Prop:=
 ∀fuel cs x,fuel<N->DataW.trod encH P w 0 (λ_=>true) true fuel T cs=some x->∃a,Bc (Old w) w [] (enc a) cs/\(∀c∈enc a,c.leaf=true)/\good a
theorem bt.rd {α:Type}{T:TypeId}{enc:α->List AV}{good:α->Prop}(h :∀N,bt encH P w N T enc good):Rd encH P w T enc good:=λfuel cs x hx=>h (fuel+1) fuel cs x (Nat.lt_succ_self _) hx
theorem bt.slice {α:Type}{N:Nat}{T e:TypeId}{enc:α->List AV}{good:α->Prop}(hu:P.underlying T=some (.slice e))(hsz:0<P.cellsOf e)(hE:bt encH P w N e enc good):
  bt encH P w (N+1) T (eS enc) (F7 good):=λfuel cs x hN h=>by
 rcases DataW.trod_slice hu h with ⟨rfl,_⟩|⟨a,len,cap,elems,rest,n,hfu,rfl,_,_,hl,hm,hlen,hel,_,_⟩
 ·exact⟨[],by simp[eS,Bc,Ae],by simp[eS,AV.leaf],by simp[F7]⟩
 ·have hn:n<N:=by omega
  have hex:∀i,i<len->∃p:α×List Value,w.cells? 0 (a.add (i*P.cellsOf e)) (P.cellsOf e)=some p.2/\Bc (Old w) w [] (enc p.1) p.2/\(∀c∈enc p.1,c.leaf=true)/\good p.1:=λi hi=>by
   have h1:=hel i hi;rw[uQ (by omega)]at h1;obtain⟨cs',h1,h2⟩:=vO.1 h1;obtain⟨y,h3,h4,h5⟩:=hE _ _ _ hn h2;exact⟨(y,cs'),h1,h3,h4,h5⟩
  rcases Nat.eq_zero_or_pos len with h0|h0
  ·subst h0;refine⟨[],?_,by simp[eS,AV.leaf],by simp[F7]⟩;simp[eS,Bc,Ae]
  ·obtain⟨p0,_⟩:=hex 0 h0
   let d:Inhabited (α×List Value):=⟨p0⟩
   obtain⟨f,hf⟩:=Deep.choose_lt hex;have hal:=λi hi=>Zm (hf i hi).1 hsz;have hadd:∀i,(a.add i).block=a.block/\(a.add i).off=a.off+i:=λi=>by
    unfold Addr.add;by_cases hj:i=0<;>simp[hj]
   obtain⟨hs0,hb0,_,_⟩:=hal 0 h0;have ha:a.spot=none:=by simpa [Addr.add] using hs0
   obtain⟨b,off,sp⟩:=a;simp only at ha;subst ha;refine⟨(List.range len).map λi=>(f i).1,?_,by simp[eS,AV.leaf],?_,by simp[maxLen]at hm⊢;omega⟩
   ·simp only[eS,Bc,Ae];refine⟨_,[],rfl,⟨_,cap,by simp,by simp;omega,λ_=>⟨b,off,P.cellsOf e,rfl,by unfold Old;simpa [hadd] using hb0,λy hy=>?_,?_⟩⟩,rfl⟩
    ·simp only[uw,wQ]at hy;obtain⟨_,⟨i,hi,rfl⟩,rfl⟩:=hy;rw[<- BR (hf i hi).2.1];exact (hal i hi).2.2.1
    ·refine Mh (size:=P.cellsOf e) (λy hy=>?_) λi y hy=>?_
     ·simp only[uw,wQ]at hy;obtain⟨_,⟨i,hi,rfl⟩,rfl⟩:=hy;rw[<- BR (hf i hi).2.1];exact (hal i hi).2.2.1
     ·simp only[uP,uR]at hy;obtain⟨_,⟨i',hi',rfl⟩,rfl⟩:=hy;have hlt:i<len:=by
       have:=(uK.1 hi').1;simpa using this
      have hii:i'=i:=by
       rw[wY hlt]at hi';simpa using hi'.symm
      subst hii;refine LS λj c hc=>?_;obtain⟨u,hu',hr⟩:=Bo (hf i' hlt).2.1 j c hc;have:=(hal i' hlt).2.2.2 j u hu';simp only[hadd]at this;exact⟨u,this,(hf i' hlt).2.2.1 c (uL hc),hr⟩
   ·intro y hy;simp only[uw,wQ]at hy;obtain⟨i,hi,rfl⟩:=hy;exact (hf i hi).2.2.2
theorem dk {T:TypeId}{fs:Array Field}{fuel:Nat}{cs:List Value}{x:DataW H×List MemPlace}(hu:P.underlying T=some (.struct fs))(h:DataW.trod encH P w 0 (λ_=>true) true fuel T cs=some x):
  cs.length=P.cellsOf T/\∃n,fuel=n+1/\∀(i:Nat) (f:Field),fs[i]?=some f->∃y,DataW.trod encH P w 0 (λ_=>true) true n f.type ((cs.drop f.offset).take (P.cellsOf f.type))=some y:=by
 obtain⟨xs,n,hfu,_,hl,hlen,hf⟩:=DataW.trod_struct hu h;refine⟨hl,n,hfu,λi f hfi=>?_⟩;have:=hf i f hfi;have hi:i<xs.length:=by rw[hlen];exact (vR.1 hfi).1
 rw[uQ hi]at this;exact⟨_,this⟩
end
end Go.Abs
