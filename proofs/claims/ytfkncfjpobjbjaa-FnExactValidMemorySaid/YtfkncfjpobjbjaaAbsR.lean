import Derived.Test.YtfkncfjpobjbjaaGEncToEncB
import Derived.ProofKit
import Derived.OpenShut
import Derived.ShutString
import Derived.ChangeOld
import Derived.Deep.Slices
set_option linter.all false
namespace Go.Abs
open Go RC Go.ChangeShapes Go.WideShapes Go.ChangeAt Go.RowKit
def Old (w:World)(b:Nat):Prop:=b<w.heap.size
section
variable {H : Type} {U9 : TypeId × Value -> H} {P : Program} {w : World}
def Rd {α:Type}(U9:TypeId×Value->H)(P:Program)(w:World)(T:TypeId)(enc:α->List AV)(C4:α->Prop):Prop:=
 ∀fuel cs x,DataW.trod U9 P w 0 (λ_=>true) true fuel T cs=some x->∃a,Ad (Old w) w [] (enc a) cs/\(∀c∈enc a,c.leaf=true)/\C4 a
theorem Rd.int {T:TypeId}(hu:P.underlying T=some (.int .i64)):Rd U9 P w T eI Bl:=λfuel cs x h=>by
 obtain⟨n,rfl,_,hw⟩:=DataW.trod_int hu h;refine⟨n,by simp[eI,Ad,AF],by simp[eI,AV.leaf],?_⟩;have h1:IntKind.i64.min=-9223372036854775808:=by decide
 have h2:IntKind.i64.max=9223372036854775807:=by decide
 simp[Lit.wf]at hw;unfold Bl;omega
theorem Rd.u8 {T:TypeId}(hu:P.underlying T=some (.int .u8)):Rd U9 P w T Mk U8:=λfuel cs x h=>by
 obtain⟨n,rfl,_,hw⟩:=DataW.trod_int hu h;refine⟨n,by simp[Mk,Ad,AF],by simp[Mk,AV.leaf],?_⟩;have h1:IntKind.u8.min=0:=by decide
 have h2:IntKind.u8.max=255:=by decide
 simp[Lit.wf]at hw;unfold U8;omega
theorem Rd.bool {T:TypeId}(hu:P.underlying T=some .bool):Rd U9 P w T eB (λ_=>True):=λfuel cs x h=>by
 cases fuel with
 | zero=>simp[DataW.trod]at h
 | succ n=>
  unfold DataW.trod at h;rw[hu]at h;split at h<;>simp_all;rename_i b;have:Ad (Old w) w [] (eB b) [.bool b]/\∀c∈eB b,c.leaf=true:=⟨by simp[eB,Ad,AF],by simp[eB,AV.leaf]⟩
  cases b
  ·exact .inl this
  ·exact .inr this
theorem NP {a:Addr}{n:Nat}{cs:List Value}(h:w.cells? 0 a n=some cs)(hn:0<n):a.spot=none/\a.block<w.heap.size/\cs.length=n/\∀(j:Nat) v,cs[j]?=some v->w.cell? ⟨a.block,a.off+j,none⟩=some v:=by
 unfold World.cells? at h;rw[Ry (R5 _)]at h;have hm:=h;have hlen:cs.length=n:=by
  have :∀(l:List Nat) (cs:List Value),l.mapM (λi=>w.cell? (a.add i))=some cs->cs.length=l.length:=λl=>by
   induction l with
   | nil=>intro cs h;simp at h;subst h;rfl
   | cons i l ih=>
    intro cs h;rw[TW]at h;simp only[Option.bind_eq_bind,R3]at h;obtain⟨v,_,vs,h2,h3⟩:=h;simp at h3;subst h3;simp[ih vs h2]
  simpa using this _ _ h
 have T5:∀(j:Nat) v,cs[j]?=some v->w.cell? (a.add j)=some v:=by
  have :∀(l:List Nat) (cs:List Value),l.mapM (λi=>w.cell? (a.add i))=some cs->∀(j:Nat) v i,cs[j]?=some v->l[j]?=some i->w.cell? (a.add i)=some v:=λl=>by
   induction l with
   | nil=>intro cs h j v i _ hi;simp at hi
   | cons i l ih=>
    intro cs h j v i' hv hi;rw[TW]at h;simp only[Option.bind_eq_bind,R3]at h;obtain⟨u,h1,vs,h2,h3⟩:=h;simp at h3;subst h3;cases j with
    | zero=>simp at hv hi;subst hv;subst hi;exact h1
    | succ j=>simp at hv hi;exact ih vs h2 j v i' hv hi
  intro j v hv;have hj:j<n:=by rw[<- hlen];exact (Rm.1 hv).1
  exact this _ _ h j v j hv (by simp[hj])
 have h0:∃v,cs[0]?=some v:=⟨cs[0]'(by omega),Rp (by omega)⟩
 obtain⟨v0,cO⟩:=h0;have U3:=T5 0 v0 cO;have ZS:a.spot=none:=by
  have:=World.cell?_spot U3;simpa [Addr.add] using this
 obtain⟨b,off,sp⟩:=a;simp only at ZS;subst ZS;have YW:∀j,(Addr.add ⟨b,off,none⟩ j)=⟨b,off+j,none⟩:=λj=>by
  unfold Addr.add;by_cases hj:j=0<;>simp[hj]
 refine⟨rfl,?_,hlen,λj v hv=>by rw[<- YW];exact T5 j v hv⟩;simp only;rw[YW]at U3;rcases TD b w.heap.size with hb|hb
 ·exact hb
 ·have:w.heap[b]?=none:=Array.getElem?_eq_none hb;simp[World.cell?,this]at U3
theorem Rd.slice {α:Type}{T e:TypeId}{enc:α->List AV}{C4:α->Prop}(hu:P.underlying T=some (.slice e))(UX:0<P.cellsOf e)(hE:Rd U9 P w e enc C4):
  Rd U9 P w T (eS enc) (Fa C4):=λfuel cs x h=>by
 rcases Deep.open_slice hu h with ⟨rfl,_⟩|⟨a,len,cap,m,n,D,Pl,rfl,_,hl,hm,fK,_,hx⟩
 ·exact⟨[],by simp[eS,Ad,AF],by simp[eS,AV.leaf],by simp[Fa]⟩
 ·have jN:m=cap:=by simpa using fK
  subst jN;have hex:∀i,i<len->∃p:α×List Value,w.cells? 0 (a.add (i*P.cellsOf e)) (P.cellsOf e)=some p.2/\Ad (Old w) w [] (enc p.1) p.2/\(∀c∈enc p.1,c.leaf=true)/\C4 p.1:=λi hi=>by
   obtain⟨cs',h1,h2⟩:=hx i (by omega);obtain⟨y,h3,h4,h5⟩:=hE _ _ _ h2;exact⟨(y,cs'),h1,h3,h4,h5⟩
  rcases Nat.eq_zero_or_pos len with h0|h0
  ·subst h0;exact⟨[],by simp[eS,Ad,AF],by simp[eS,AV.leaf],by simp[Fa]⟩
  ·obtain⟨p0,_⟩:=hex 0 h0
   let d:Inhabited (α×List Value):=⟨p0⟩
   obtain⟨f,hf⟩:=Deep.choose_lt hex;have cP:=λi hi=>NP (hf i hi).1 UX;have YW:∀i,(a.add i).block=a.block/\(a.add i).off=a.off+i:=λi=>by
    unfold Addr.add;by_cases hj:i=0<;>simp[hj]
   obtain⟨cT,bn,_,_⟩:=cP 0 h0;have ha:a.spot=none:=by simpa [Addr.add] using cT
   obtain⟨b,off,sp⟩:=a;simp only at ha;subst ha;refine⟨(List.range len).map λi=>(f i).1,?_,by simp[eS,AV.leaf],?_,by simp[maxLen]at hm⊢;omega⟩
   ·simp only[eS,Ad,AF];refine⟨_,[],rfl,⟨_,m,by simp,by simp;omega,λ_=>⟨b,off,P.cellsOf e,rfl,by unfold Old;simpa [YW] using bn,λy hy=>?_,?_⟩⟩,rfl⟩
    ·simp only[R7,TX]at hy;obtain⟨_,⟨i,hi,rfl⟩,rfl⟩:=hy;rw[<- Aa (hf i hi).2.1];exact (cP i hi).2.2.1
    ·refine Dg (size:=P.cellsOf e) (λy hy=>?_) λi y hy=>?_
     ·simp only[R7,TX]at hy;obtain⟨_,⟨i,hi,rfl⟩,rfl⟩:=hy;rw[<- Aa (hf i hi).2.1];exact (cP i hi).2.2.1
     ·simp only[Ro,Rr]at hy;obtain⟨_,⟨i',Wm,rfl⟩,rfl⟩:=hy;have T9:i<len:=by
       have:=(Rm.1 Wm).1;simpa using this
      have X1:i'=i:=by
       rw[TN T9]at Wm;simpa using Wm.symm
      subst X1;refine DH λj c hc=>?_;obtain⟨u,VC,hr⟩:=Aj (hf i' T9).2.1 j c hc;have:=(cP i' T9).2.2.2 j u VC;simp only[YW]at this;exact⟨u,this,(hf i' T9).2.2.1 c (Rk hc),hr⟩
   ·intro y hy;simp only[R7,TX]at hy;obtain⟨i,hi,rfl⟩:=hy;exact (hf i hi).2.2.2
theorem Ma {T:TypeId}{fs:Array Field}{fuel:Nat}{cs:List Value}{x:DataW H×List MemPlace}(hu:P.underlying T=some (.struct fs))(h:DataW.trod U9 P w 0 (λ_=>true) true fuel T cs=some x):
  cs.length=P.cellsOf T/\∃n,∀(i:Nat) (f:Field),fs[i]?=some f->∃y,DataW.trod U9 P w 0 (λ_=>true) true n f.type ((cs.drop f.offset).take (P.cellsOf f.type))=some y:=by
 obtain⟨xs,n,_,_,hl,hlen,hf⟩:=DataW.trod_struct hu h;refine⟨hl,n,λi f bk=>?_⟩;have:=hf i f bk;have hi:i<xs.length:=by rw[hlen];exact (SZ.1 bk).1
 rw[Rp hi]at this;exact⟨_,this⟩
theorem Lq {F:Nat->Prop}{os:List Own}{xs ys:List AV}{us vs:List Value}(h1:Ad F w os xs us)(h2:Ad F w os ys vs):Ad F w os (xs++ys) (us++vs):=
 BQ (by simp[Aa h1,Aa h2]) λi x u hx hu=>by
  have hl:=Aa h1;rcases TD i xs.length with hi|hi
  ·rw[Rt hi]at hx;rw[Rt (by omega)]at hu;obtain⟨u',h3,h4⟩:=Aj h1 i x hx;rw[h3]at hu;cases hu;exact h4
  ·rw[Rv hi]at hx;rw[Rv (by omega),hl]at hu;obtain⟨u',h3,h4⟩:=Aj h2 _ x hx;rw[h3]at hu;cases hu;exact h4
end
theorem N6 {F:Nat->Prop}{w:World}{xs:List AV}{cs:Array Value}(h:Ad F w [] xs cs.toList):Ad F w [] [.agg xs] [.agg cs]:=by
 simp only[Ad,AF];exact⟨.agg cs,[],rfl,⟨cs.toList,by simp,h⟩,rfl⟩
theorem Ext.below {F':Nat->Prop}{w w':World}{os':List Own}(h:Ext (Old w) [] w F' os' w' 0):Below w.heap.size w w':=
 ⟨h.sys,h.tape,h.output,h.size,λb hb=>h.C8 b hb⟩
theorem AY.law {P:Program}{f:FuncId}{args:List AV}{vs:List Value}{w:World}(h:AY P f args [] λv st=>v=.bool true/\st=[])(hl:Ad (Old w) w [] args vs):
  Calls P f vs.toArray w λe w'=>e=.returned (.bool true)/\Below w.heap.size w w':=by
 refine (h (Old w) [] w vs (B9.nil λb hb=>hb) hl).mono ?_;rintro e w' ⟨v,r,st',F',os',rfl,⟨rfl,rfl⟩,_,hr,he⟩;simp only[AF]at hr;subst hr;exact⟨rfl,he.below⟩
end Go.Abs
