import Derived.Test.YtgiajkaabnbieaaGreatGAbsZPToSSDefs
import Derived.ProofKit
import Derived.OpenShut
import Derived.ShutString
import Derived.ChangeOld
import Derived.Deep.Slices
set_option linter.all false
namespace Go.Abs
open Go RC Go.ChangeShapes Go.WideShapes Go.ChangeAt Go.RowKit
def Old (w:World)(b:Nat):Prop:=b<w.heap.size
section
variable {H : Type} {encH : TypeId × Value -> H} {P : Program} {w : World}
def Rd {α:Type}(encH:TypeId×Value->H)(P:Program)(w:World)(T:TypeId)(enc:α->List AV)(se:α->Prop):Prop:=
 ∀fuel cs x,DataW.trod encH P w 0 (λ_=>true) true fuel T cs=some x->∃a,Ba (Old w) w [] (enc a) cs/\(∀c∈enc a,c.leaf=true)/\se a
theorem Rd.int {T:TypeId}(hu:P.underlying T=some (.int .i64)):Rd encH P w T eI KZ:=λfuel cs x h=>by
 obtain⟨n,rfl,_,hw⟩:=DataW.trod_int hu h;refine⟨n,by simp[eI,Ba,Ae],by simp[eI,AV.leaf],?_⟩;have h1:IntKind.i64.min=-9223372036854775808:=by decide
 have h2:IntKind.i64.max=9223372036854775807:=by decide
 simp[Lit.wf]at hw;unfold KZ;omega
theorem Rd.u8 {T:TypeId}(hu:P.underlying T=some (.int .u8)):Rd encH P w T bD U8:=λfuel cs x h=>by
 obtain⟨n,rfl,_,hw⟩:=DataW.trod_int hu h;refine⟨n,by simp[bD,Ba,Ae],by simp[bD,AV.leaf],?_⟩;have h1:IntKind.u8.min=0:=by decide
 have h2:IntKind.u8.max=255:=by decide
 simp[Lit.wf]at hw;unfold U8;omega
theorem Rd.bool {T:TypeId}(hu:P.underlying T=some .bool):Rd encH P w T eB (λ_=>True):=λfuel cs x h=>by
 cases fuel with
 | zero=>simp[DataW.trod]at h
 | succ n=>
  unfold DataW.trod at h;rw[hu]at h;split at h<;>simp_all;rename_i b;have:Ba (Old w) w [] (eB b) [.bool b]/\∀c∈eB b,c.leaf=true:=⟨by simp[eB,Ba,Ae],by simp[eB,AV.leaf]⟩
  cases b
  ·exact .inl this
  ·exact .inr this
theorem V4 {a:Addr}{n:Nat}{cs:List Value}(h:w.cells? 0 a n=some cs)(hn:0<n):a.spot=none/\a.block<w.heap.size/\cs.length=n/\∀(j:Nat) v,cs[j]?=some v->w.cell? ⟨a.block,a.off+j,none⟩=some v:=by
 unfold World.cells? at h;rw[mI (mV _)]at h;have hm:=h;have hlen:cs.length=n:=by
  have :∀(l:List Nat) (cs:List Value),l.mapM (λi=>w.cell? (a.add i))=some cs->cs.length=l.length:=λl=>by
   induction l with
   | nil=>intro cs h;simp at h;subst h;rfl
   | cons i l ih=>
    intro cs h;rw[pK]at h;simp only[Option.bind_eq_bind,mn]at h;obtain⟨v,_,vs,h2,h3⟩:=h;simp at h3;subst h3;simp[ih vs h2]
  simpa using this _ _ h
 have rD:∀(j:Nat) v,cs[j]?=some v->w.cell? (a.add j)=some v:=by
  have :∀(l:List Nat) (cs:List Value),l.mapM (λi=>w.cell? (a.add i))=some cs->∀(j:Nat) v i,cs[j]?=some v->l[j]?=some i->w.cell? (a.add i)=some v:=λl=>by
   induction l with
   | nil=>intro cs h j v i _ hi;simp at hi
   | cons i l ih=>
    intro cs h j v i' hv hi;rw[pK]at h;simp only[Option.bind_eq_bind,mn]at h;obtain⟨u,h1,vs,h2,h3⟩:=h;simp at h3;subst h3;cases j with
    | zero=>simp at hv hi;subst hv;subst hi;exact h1
    | succ j=>simp at hv hi;exact ih vs h2 j v i' hv hi
  intro j v hv;have hj:j<n:=by rw[<- hlen];exact (mC.1 hv).1
  exact this _ _ h j v j hv (by simp[hj])
 have h0:∃v,cs[0]?=some v:=⟨cs[0]'(by omega),mH (by omega)⟩
 obtain⟨v0,hv0⟩:=h0;have tK:=rD 0 v0 hv0;have zF:a.spot=none:=by
  have:=World.cell?_spot tK;simpa [Addr.add] using this
 obtain⟨b,off,sp⟩:=a;simp only at zF;subst zF;have tF:∀j,(Addr.add ⟨b,off,none⟩ j)=⟨b,off+j,none⟩:=λj=>by
  unfold Addr.add;by_cases hj:j=0<;>simp[hj]
 refine⟨rfl,?_,hlen,λj v hv=>by rw[<- tF];exact rD j v hv⟩;simp only;rw[tF]at tK;rcases oO b w.heap.size with hb|hb
 ·exact hb
 ·have:w.heap[b]?=none:=Array.getElem?_eq_none hb;simp[World.cell?,this]at tK
theorem Rd.slice {α:Type}{T e:TypeId}{enc:α->List AV}{se:α->Prop}(hu:P.underlying T=some (.slice e))(rP:0<P.cellsOf e)(hE:Rd encH P w e enc se):
  Rd encH P w T (eS enc) (FO se):=λfuel cs x h=>by
 rcases Deep.open_slice hu h with ⟨rfl,_⟩|⟨a,len,cap,m,n,D,Pl,rfl,_,hl,hm,vi,_,hx⟩
 ·exact⟨[],by simp[eS,Ba,Ae],by simp[eS,AV.leaf],by simp[FO]⟩
 ·have hm':m=cap:=by simpa using vi
  subst hm';have hex:∀i,i<len->∃p:α×List Value,w.cells? 0 (a.add (i*P.cellsOf e)) (P.cellsOf e)=some p.2/\Ba (Old w) w [] (enc p.1) p.2/\(∀c∈enc p.1,c.leaf=true)/\se p.1:=λi hi=>by
   obtain⟨cs',h1,h2⟩:=hx i (by omega);obtain⟨y,h3,h4,h5⟩:=hE _ _ _ h2;exact⟨(y,cs'),h1,h3,h4,h5⟩
  rcases Nat.eq_zero_or_pos len with h0|h0
  ·subst h0;exact⟨[],by simp[eS,Ba,Ae],by simp[eS,AV.leaf],by simp[FO]⟩
  ·obtain⟨p0,_⟩:=hex 0 h0
   let d:Inhabited (α×List Value):=⟨p0⟩
   obtain⟨f,hf⟩:=Deep.choose_lt hex;have wG:=λi hi=>V4 (hf i hi).1 rP;have tF:∀i,(a.add i).block=a.block/\(a.add i).off=a.off+i:=λi=>by
    unfold Addr.add;by_cases hj:i=0<;>simp[hj]
   obtain⟨hs0,zh,_,_⟩:=wG 0 h0;have ha:a.spot=none:=by simpa [Addr.add] using hs0
   obtain⟨b,off,sp⟩:=a;simp only at ha;subst ha;refine⟨(List.range len).map λi=>(f i).1,?_,by simp[eS,AV.leaf],?_,by simp[maxLen]at hm⊢;omega⟩
   ·simp only[eS,Ba,Ae];refine⟨_,[],rfl,⟨_,m,by simp,by simp;omega,λ_=>⟨b,off,P.cellsOf e,rfl,by unfold Old;simpa [tF] using zh,λy hy=>?_,?_⟩⟩,rfl⟩
    ·simp only[mU,oL]at hy;obtain⟨_,⟨i,hi,rfl⟩,rfl⟩:=hy;rw[<- BJ (hf i hi).2.1];exact (wG i hi).2.2.1
    ·refine Jc (size:=P.cellsOf e) (λy hy=>?_) λi y hy=>?_
     ·simp only[mU,oL]at hy;obtain⟨_,⟨i,hi,rfl⟩,rfl⟩:=hy;rw[<- BJ (hf i hi).2.1];exact (wG i hi).2.2.1
     ·simp only[mG,mK]at hy;obtain⟨_,⟨i',tO,rfl⟩,rfl⟩:=hy;have rJ:i<len:=by
       have:=(mC.1 tO).1;simpa using this
      have uT:i'=i:=by
       rw[nb rJ]at tO;simpa using tO.symm
      subst uT;refine Ii λj c hc=>?_;obtain⟨u,sa,hr⟩:=CD (hf i' rJ).2.1 j c hc;have:=(wG i' rJ).2.2.2 j u sa;simp only[tF]at this;exact⟨u,this,(hf i' rJ).2.2.1 c (mB hc),hr⟩
   ·intro y hy;simp only[mU,oL]at hy;obtain⟨i,hi,rfl⟩:=hy;exact (hf i hi).2.2.2
theorem Ns {T:TypeId}{fs:Array Field}{fuel:Nat}{cs:List Value}{x:DataW H×List MemPlace}(hu:P.underlying T=some (.struct fs))(h:DataW.trod encH P w 0 (λ_=>true) true fuel T cs=some x):
  cs.length=P.cellsOf T/\∃n,∀(i:Nat) (f:Field),fs[i]?=some f->∃y,DataW.trod encH P w 0 (λ_=>true) true n f.type ((cs.drop f.offset).take (P.cellsOf f.type))=some y:=by
 obtain⟨xs,n,_,_,hl,hlen,hf⟩:=DataW.trod_struct hu h;refine⟨hl,n,λi f xZ=>?_⟩;have:=hf i f xZ;have hi:i<xs.length:=by rw[hlen];exact (mq.1 xZ).1
 rw[mH hi]at this;exact⟨_,this⟩
theorem Ft {F:Nat->Prop}{os:List Own}{xs ys:List AV}{us vs:List Value}(h1:Ba F w os xs us)(h2:Ba F w os ys vs):Ba F w os (xs++ys) (us++vs):=
 Ds (by simp[BJ h1,BJ h2]) λi x u hx hu=>by
  have hl:=BJ h1;rcases oO i xs.length with hi|hi
  ·rw[mM hi]at hx;rw[mM (by omega)]at hu;obtain⟨u',h3,h4⟩:=CD h1 i x hx;rw[h3]at hu;cases hu;exact h4
  ·rw[mP hi]at hx;rw[mP (by omega),hl]at hu;obtain⟨u',h3,h4⟩:=CD h2 _ x hx;rw[h3]at hu;cases hu;exact h4
end
theorem dx {F:Nat->Prop}{w:World}{xs:List AV}{cs:Array Value}(h:Ba F w [] xs cs.toList):Ba F w [] [.agg xs] [.agg cs]:=by
 simp only[Ba,Ae];exact⟨.agg cs,[],rfl,⟨cs.toList,by simp,h⟩,rfl⟩
theorem Ext.below {F':Nat->Prop}{w w':World}{os':List Own}(h:Ext (Old w) [] w F' os' w' 0):Below w.heap.size w w':=
 ⟨h.sys,h.tape,h.output,h.size,λb hb=>h.H8 b hb⟩
theorem AS.law {P:Program}{f:FuncId}{args:List AV}{vs:List Value}{w:World}(h:AS P f args [] λv st=>v=.bool true/\st=[])(hl:Ba (Old w) w [] args vs):
  Calls P f vs.toArray w λe w'=>e=.returned (.bool true)/\Below w.heap.size w w':=by
 refine (h (Old w) [] w vs (GU.nil λb hb=>hb) hl).mono ?_;rintro e w' ⟨v,r,st',F',os',rfl,⟨rfl,rfl⟩,_,hr,he⟩;simp only[Ae]at hr;subst hr;exact⟨rfl,he.below⟩
end Go.Abs
