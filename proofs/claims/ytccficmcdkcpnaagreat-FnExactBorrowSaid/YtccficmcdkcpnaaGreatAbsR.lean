import Derived.Test.YtccficmcdkcpnaaGreatGAbsZPToSSDefs
import Derived.ProofKit
import Derived.OpenShut
import Derived.ShutString
import Derived.ChangeOld
import Derived.Deep.Slices
set_option linter.all false
namespace Go.Abs
open Go RC Go.ChangeShapes Go.WideShapes Go.ChangeAt Go.RowKit
def Old (w:World)(b:Nat):Prop:=b<w.heap.size
section
variable {H : Type} {encH : TypeId × Value -> H} {P : Program} {w : World}
def Rd {α:Type}(encH:TypeId×Value->H)(P:Program)(w:World)(T:TypeId)(enc:α->List AV)(tU:α->Prop):Prop:=
 ∀fuel cs x,DataW.trod encH P w 0 (λ_=>true) true fuel T cs=some x->∃a,A7 (Old w) w [] (enc a) cs/\(∀c∈enc a,c.leaf=true)/\tU a
theorem Rd.int {T:TypeId}(hu:P.underlying T=some (.int .i64)):Rd encH P w T eI Ji:=λfuel cs x h=>by
 obtain⟨n,rfl,_,hw⟩:=DataW.trod_int hu h;refine⟨n,by simp[eI,A7,AU],by simp[eI,AV.leaf],?_⟩;have h1:IntKind.i64.min=-9223372036854775808:=by decide
 have h2:IntKind.i64.max=9223372036854775807:=by decide
 simp[Lit.wf]at hw;unfold Ji;omega
theorem Rd.u8 {T:TypeId}(hu:P.underlying T=some (.int .u8)):Rd encH P w T aa U8:=λfuel cs x h=>by
 obtain⟨n,rfl,_,hw⟩:=DataW.trod_int hu h;refine⟨n,by simp[aa,A7,AU],by simp[aa,AV.leaf],?_⟩;have h1:IntKind.u8.min=0:=by decide
 have h2:IntKind.u8.max=255:=by decide
 simp[Lit.wf]at hw;unfold U8;omega
theorem Rd.bool {T:TypeId}(hu:P.underlying T=some .bool):Rd encH P w T eB (λ_=>True):=λfuel cs x h=>by
 cases fuel with
 | zero=>simp[DataW.trod]at h
 | succ n=>
  unfold DataW.trod at h;rw[hu]at h;split at h<;>simp_all;rename_i b;have:A7 (Old w) w [] (eB b) [.bool b]/\∀c∈eB b,c.leaf=true:=⟨by simp[eB,A7,AU],by simp[eB,AV.leaf]⟩
  cases b
  ·exact .inl this
  ·exact .inr this
theorem Vg {a:Addr}{n:Nat}{cs:List Value}(h:w.cells? 0 a n=some cs)(hn:0<n):a.spot=none/\a.block<w.heap.size/\cs.length=n/\∀(j:Nat) v,cs[j]?=some v->w.cell? ⟨a.block,a.off+j,none⟩=some v:=by
 unfold World.cells? at h;rw[me (mi _)]at h;have hm:=h;have hlen:cs.length=n:=by
  have :∀(l:List Nat) (cs:List Value),l.mapM (λi=>w.cell? (a.add i))=some cs->cs.length=l.length:=λl=>by
   induction l with
   | nil=>intro cs h;simp at h;subst h;rfl
   | cons i l ih=>
    intro cs h;rw[pj]at h;simp only[Option.bind_eq_bind,nK]at h;obtain⟨v,_,vs,h2,h3⟩:=h;simp at h3;subst h3;simp[ih vs h2]
  simpa using this _ _ h
 have rb:∀(j:Nat) v,cs[j]?=some v->w.cell? (a.add j)=some v:=by
  have :∀(l:List Nat) (cs:List Value),l.mapM (λi=>w.cell? (a.add i))=some cs->∀(j:Nat) v i,cs[j]?=some v->l[j]?=some i->w.cell? (a.add i)=some v:=λl=>by
   induction l with
   | nil=>intro cs h j v i _ hi;simp at hi
   | cons i l ih=>
    intro cs h j v i' hv hi;rw[pj]at h;simp only[Option.bind_eq_bind,nK]at h;obtain⟨u,h1,vs,h2,h3⟩:=h;simp at h3;subst h3;cases j with
    | zero=>simp at hv hi;subst hv;subst hi;exact h1
    | succ j=>simp at hv hi;exact ih vs h2 j v i' hv hi
  intro j v hv;have hj:j<n:=by rw[<- hlen];exact (mT.1 hv).1
  exact this _ _ h j v j hv (by simp[hj])
 have h0:∃v,cs[0]?=some v:=⟨cs[0]'(by omega),mY (by omega)⟩
 obtain⟨v0,hv0⟩:=h0;have uF:=rb 0 v0 hv0;have ye:a.spot=none:=by
  have:=World.cell?_spot uF;simpa [Addr.add] using this
 obtain⟨b,off,sp⟩:=a;simp only at ye;subst ye;have tr:∀j,(Addr.add ⟨b,off,none⟩ j)=⟨b,off+j,none⟩:=λj=>by
  unfold Addr.add;by_cases hj:j=0<;>simp[hj]
 refine⟨rfl,?_,hlen,λj v hv=>by rw[<- tr];exact rb j v hv⟩;simp only;rw[tr]at uF;rcases pC b w.heap.size with hb|hb
 ·exact hb
 ·have:w.heap[b]?=none:=Array.getElem?_eq_none hb;simp[World.cell?,this]at uF
theorem Rd.slice {α:Type}{T e:TypeId}{enc:α->List AV}{tU:α->Prop}(hu:P.underlying T=some (.slice e))(ru:0<P.cellsOf e)(hE:Rd encH P w e enc tU):
  Rd encH P w T (eS enc) (Ep tU):=λfuel cs x h=>by
 rcases Deep.open_slice hu h with ⟨rfl,_⟩|⟨a,len,cap,m,n,D,Pl,rfl,_,hl,hm,yJ,_,hx⟩
 ·exact⟨[],by simp[eS,A7,AU],by simp[eS,AV.leaf],by simp[Ep]⟩
 ·have hm':m=cap:=by simpa using yJ
  subst hm';have hex:∀i,i<len->∃p:α×List Value,w.cells? 0 (a.add (i*P.cellsOf e)) (P.cellsOf e)=some p.2/\A7 (Old w) w [] (enc p.1) p.2/\(∀c∈enc p.1,c.leaf=true)/\tU p.1:=λi hi=>by
   obtain⟨cs',h1,h2⟩:=hx i (by omega);obtain⟨y,h3,h4,h5⟩:=hE _ _ _ h2;exact⟨(y,cs'),h1,h3,h4,h5⟩
  rcases Nat.eq_zero_or_pos len with h0|h0
  ·subst h0;exact⟨[],by simp[eS,A7,AU],by simp[eS,AV.leaf],by simp[Ep]⟩
  ·obtain⟨p0,_⟩:=hex 0 h0
   let d:Inhabited (α×List Value):=⟨p0⟩
   obtain⟨f,hf⟩:=Deep.choose_lt hex;have wR:=λi hi=>Vg (hf i hi).1 ru;have tr:∀i,(a.add i).block=a.block/\(a.add i).off=a.off+i:=λi=>by
    unfold Addr.add;by_cases hj:i=0<;>simp[hj]
   obtain⟨hs0,zQ,_,_⟩:=wR 0 h0;have ha:a.spot=none:=by simpa [Addr.add] using hs0
   obtain⟨b,off,sp⟩:=a;simp only at ha;subst ha;refine⟨(List.range len).map λi=>(f i).1,?_,by simp[eS,AV.leaf],?_,by simp[maxLen]at hm⊢;omega⟩
   ·simp only[eS,A7,AU];refine⟨_,[],rfl,⟨_,m,by simp,by simp;omega,λ_=>⟨b,off,P.cellsOf e,rfl,by unfold Old;simpa [tr] using zQ,λy hy=>?_,?_⟩⟩,rfl⟩
    ·simp only[mu,ot]at hy;obtain⟨_,⟨i,hi,rfl⟩,rfl⟩:=hy;rw[<- A3 (hf i hi).2.1];exact (wR i hi).2.2.1
    ·refine IT (size:=P.cellsOf e) (λy hy=>?_) λi y hy=>?_
     ·simp only[mu,ot]at hy;obtain⟨_,⟨i,hi,rfl⟩,rfl⟩:=hy;rw[<- A3 (hf i hi).2.1];exact (wR i hi).2.2.1
     ·simp only[mX,mZ]at hy;obtain⟨_,⟨i',tz,rfl⟩,rfl⟩:=hy;have rh:i<len:=by
       have:=(mT.1 tz).1;simpa using this
      have wD:i'=i:=by
       rw[oe rh]at tz;simpa using tz.symm
      subst wD;refine HY λj c hc=>?_;obtain⟨u,tZ,hr⟩:=BQ (hf i' rh).2.1 j c hc;have:=(wR i' rh).2.2.2 j u tZ;simp only[tr]at this;exact⟨u,this,(hf i' rh).2.2.1 c (mS hc),hr⟩
   ·intro y hy;simp only[mu,ot]at hy;obtain⟨i,hi,rfl⟩:=hy;exact (hf i hi).2.2.2
theorem Mg {T:TypeId}{fs:Array Field}{fuel:Nat}{cs:List Value}{x:DataW H×List MemPlace}(hu:P.underlying T=some (.struct fs))(h:DataW.trod encH P w 0 (λ_=>true) true fuel T cs=some x):
  cs.length=P.cellsOf T/\∃n,∀(i:Nat) (f:Field),fs[i]?=some f->∃y,DataW.trod encH P w 0 (λ_=>true) true n f.type ((cs.drop f.offset).take (P.cellsOf f.type))=some y:=by
 obtain⟨xs,n,_,_,hl,hlen,hf⟩:=DataW.trod_struct hu h;refine⟨hl,n,λi f wi=>?_⟩;have:=hf i f wi;have hi:i<xs.length:=by rw[hlen];exact (nN.1 wi).1
 rw[mY hi]at this;exact⟨_,this⟩
theorem FF {F:Nat->Prop}{os:List Own}{xs ys:List AV}{us vs:List Value}(h1:A7 F w os xs us)(h2:A7 F w os ys vs):A7 F w os (xs++ys) (us++vs):=
 Cq (by simp[A3 h1,A3 h2]) λi x u hx hu=>by
  have hl:=A3 h1;rcases pC i xs.length with hi|hi
  ·rw[mg hi]at hx;rw[mg (by omega)]at hu;obtain⟨u',h3,h4⟩:=BQ h1 i x hx;rw[h3]at hu;cases hu;exact h4
  ·rw[mn hi]at hx;rw[mn (by omega),hl]at hu;obtain⟨u',h3,h4⟩:=BQ h2 _ x hx;rw[h3]at hu;cases hu;exact h4
end
theorem dG {F:Nat->Prop}{w:World}{xs:List AV}{cs:Array Value}(h:A7 F w [] xs cs.toList):A7 F w [] [.agg xs] [.agg cs]:=by
 simp only[A7,AU];exact⟨.agg cs,[],rfl,⟨cs.toList,by simp,h⟩,rfl⟩
theorem Ext.below {F':Nat->Prop}{w w':World}{os':List Own}(h:Ext (Old w) [] w F' os' w' 0):Below w.heap.size w w':=
 ⟨h.sys,h.tape,h.output,h.size,λb hb=>h.HP b hb⟩
theorem BJ.law {P:Program}{f:FuncId}{args:List AV}{vs:List Value}{w:World}(h:BJ P f args [] λv st=>v=.bool true/\st=[])(hl:A7 (Old w) w [] args vs):
  Calls P f vs.toArray w λe w'=>e=.returned (.bool true)/\Below w.heap.size w w':=by
 refine (h (Old w) [] w vs (FT.nil λb hb=>hb) hl).mono ?_;rintro e w' ⟨v,r,st',F',os',rfl,⟨rfl,rfl⟩,_,hr,he⟩;simp only[AU]at hr;subst hr;exact⟨rfl,he.below⟩
end Go.Abs
