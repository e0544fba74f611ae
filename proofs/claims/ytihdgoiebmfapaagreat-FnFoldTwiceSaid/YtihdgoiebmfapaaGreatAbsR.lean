import Derived.Test.YtihdgoiebmfapaaGreatGAbsZPToSSDefs
import Derived.ProofKit
import Derived.OpenShut
import Derived.ShutString
import Derived.ChangeOld
import Derived.Deep.Slices
set_option linter.all false
namespace Go.Abs
open Go RC Go.ChangeShapes Go.WideShapes Go.ChangeAt Go.RowKit
def Old (w:World)(b:Nat):Prop:=b<w.heap.size
section
variable {H : Type} {qt : TypeId × Value -> H} {P : Program} {w : World}
def Rd {α:Type}(qt:TypeId×Value->H)(P:Program)(w:World)(T:TypeId)(enc:α->List AV)(Vc:α->Prop):Prop:=
 ∀fuel cs x,DataW.trod qt P w 0 (λ_=>true) true fuel T cs=some x->∃a,Br (Old w) w [] (enc a) cs/\(∀c∈enc a,c.leaf=true)/\Vc a
theorem Rd.int {T:TypeId}(hu:P.underlying T=some (.int .i64)):Rd qt P w T eI Gw:=λfuel cs x h=>by
 obtain⟨n,rfl,_,hw⟩:=DataW.trod_int hu h;refine⟨n,by simp[eI,Br,Ae],by simp[eI,AV.leaf],?_⟩;have h1:IntKind.i64.min=-9223372036854775808:=by decide
 have h2:IntKind.i64.max=9223372036854775807:=by decide
 simp[Lit.wf]at hw;unfold Gw;omega
theorem Rd.u8 {T:TypeId}(hu:P.underlying T=some (.int .u8)):Rd qt P w T E4 U8:=λfuel cs x h=>by
 obtain⟨n,rfl,_,hw⟩:=DataW.trod_int hu h;refine⟨n,by simp[E4,Br,Ae],by simp[E4,AV.leaf],?_⟩;have h1:IntKind.u8.min=0:=by decide
 have h2:IntKind.u8.max=255:=by decide
 simp[Lit.wf]at hw;unfold U8;omega
theorem Rd.bool {T:TypeId}(hu:P.underlying T=some .bool):Rd qt P w T eB (λ_=>True):=λfuel cs x h=>by
 cases fuel with
 | zero=>simp[DataW.trod]at h
 | succ n=>
  unfold DataW.trod at h;rw[hu]at h;split at h<;>simp_all;rename_i b;have:Br (Old w) w [] (eB b) [.bool b]/\∀c∈eB b,c.leaf=true:=⟨by simp[eB,Br,Ae],by simp[eB,AV.leaf]⟩
  cases b
  ·exact .inl this
  ·exact .inr this
theorem aQ {a:Addr}{n:Nat}{cs:List Value}(h:w.cells? 0 a n=some cs)(hn:0<n):a.spot=none/\a.block<w.heap.size/\cs.length=n/\∀(j:Nat) v,cs[j]?=some v->w.cell? ⟨a.block,a.off+j,none⟩=some v:=by
 unfold World.cells? at h;rw[jm (kE _)]at h;have hm:=h;have hlen:cs.length=n:=by
  have :∀(l:List Nat) (cs:List Value),l.mapM (λi=>w.cell? (a.add i))=some cs->cs.length=l.length:=λl=>by
   induction l with
   | nil=>intro cs h;simp at h;subst h;rfl
   | cons i l ih=>
    intro cs h;rw[mq]at h;simp only[Option.bind_eq_bind,kU]at h;obtain⟨v,_,vs,h2,h3⟩:=h;simp at h3;subst h3;simp[ih vs h2]
  simpa using this _ _ h
 have oe:∀(j:Nat) v,cs[j]?=some v->w.cell? (a.add j)=some v:=by
  have :∀(l:List Nat) (cs:List Value),l.mapM (λi=>w.cell? (a.add i))=some cs->∀(j:Nat) v i,cs[j]?=some v->l[j]?=some i->w.cell? (a.add i)=some v:=λl=>by
   induction l with
   | nil=>intro cs h j v i _ hi;simp at hi
   | cons i l ih=>
    intro cs h j v i' hv hi;rw[mq]at h;simp only[Option.bind_eq_bind,kU]at h;obtain⟨u,h1,vs,h2,h3⟩:=h;simp at h3;subst h3;cases j with
    | zero=>simp at hv hi;subst hv;subst hi;exact h1
    | succ j=>simp at hv hi;exact ih vs h2 j v i' hv hi
  intro j v hv;have hj:j<n:=by rw[<- hlen];exact (jg.1 hv).1
  exact this _ _ h j v j hv (by simp[hj])
 have h0:∃v,cs[0]?=some v:=⟨cs[0]'(by omega),jl (by omega)⟩
 obtain⟨v0,hv0⟩:=h0;have qj:=oe 0 v0 hv0;have wx:a.spot=none:=by
  have:=World.cell?_spot qj;simpa [Addr.add] using this
 obtain⟨b,off,sp⟩:=a;simp only at wx;subst wx;have rZ:∀j,(Addr.add ⟨b,off,none⟩ j)=⟨b,off+j,none⟩:=λj=>by
  unfold Addr.add;by_cases hj:j=0<;>simp[hj]
 refine⟨rfl,?_,hlen,λj v hv=>by rw[<- rZ];exact oe j v hv⟩;simp only;rw[rZ]at qj;rcases la b w.heap.size with hb|hb
 ·exact hb
 ·have:w.heap[b]?=none:=mm hb;simp[World.cell?,this]at qj
theorem Rd.slice {α:Type}{T e:TypeId}{enc:α->List AV}{Vc:α->Prop}(hu:P.underlying T=some (.slice e))(pL:0<P.cellsOf e)(hE:Rd qt P w e enc Vc):
  Rd qt P w T (eS enc) (IE Vc):=λfuel cs x h=>by
 rcases Deep.open_slice hu h with ⟨rfl,_⟩|⟨a,len,cap,m,n,D,Pl,rfl,_,hl,hm,wQ,_,hx⟩
 ·exact⟨[],by simp[eS,Br,Ae],by simp[eS,AV.leaf],by simp[IE]⟩
 ·have uZ:m=cap:=by simpa using wQ
  subst uZ;have hex:∀i,i<len->∃p:α×List Value,w.cells? 0 (a.add (i*P.cellsOf e)) (P.cellsOf e)=some p.2/\Br (Old w) w [] (enc p.1) p.2/\(∀c∈enc p.1,c.leaf=true)/\Vc p.1:=λi hi=>by
   obtain⟨cs',h1,h2⟩:=hx i (by omega);obtain⟨y,h3,h4,h5⟩:=hE _ _ _ h2;exact⟨(y,cs'),h1,h3,h4,h5⟩
  rcases lv len with h0|h0
  ·subst h0;exact⟨[],by simp[eS,Br,Ae],by simp[eS,AV.leaf],by simp[IE]⟩
  ·obtain⟨p0,_⟩:=hex 0 h0
   let d:Inhabited (α×List Value):=⟨p0⟩
   obtain⟨f,hf⟩:=Deep.choose_lt hex;have uT:=λi hi=>aQ (hf i hi).1 pL;have rZ:∀i,(a.add i).block=a.block/\(a.add i).off=a.off+i:=λi=>by
    unfold Addr.add;by_cases hj:i=0<;>simp[hj]
   obtain⟨yA,wV,_,_⟩:=uT 0 h0;have ha:a.spot=none:=by simpa [Addr.add] using yA
   obtain⟨b,off,sp⟩:=a;simp only at ha;subst ha;refine⟨(List.range len).map λi=>(f i).1,?_,by simp[eS,AV.leaf],?_,by simp[maxLen]at hm⊢;omega⟩
   ·simp only[eS,Br,Ae];refine⟨_,[],rfl,⟨_,m,by simp,by simp;omega,λ_=>⟨b,off,P.cellsOf e,rfl,by unfold Old;simpa [rZ] using wV,λy hy=>?_,?_⟩⟩,rfl⟩
    ·simp only[kC,lp]at hy;obtain⟨_,⟨i,hi,rfl⟩,rfl⟩:=hy;rw[<- BY (hf i hi).2.1];exact (uT i hi).2.2.1
    ·refine K0 (size:=P.cellsOf e) (λy hy=>?_) λi y hy=>?_
     ·simp only[kC,lp]at hy;obtain⟨_,⟨i,hi,rfl⟩,rfl⟩:=hy;rw[<- BY (hf i hi).2.1];exact (uT i hi).2.2.1
     ·simp only[ji,jo]at hy;obtain⟨_,⟨i',rD,rfl⟩,rfl⟩:=hy;have pG:i<len:=by
       have:=(jg.1 rD).1;simpa using this
      have uj:i'=i:=by
       rw[lN pG]at rD;simpa using rD.symm
      subst uj;refine KU λj c hc=>?_;obtain⟨u,qV,hr⟩:=CN (hf i' pG).2.1 j c hc;have:=(uT i' pG).2.2.2 j u qV;simp only[rZ]at this;exact⟨u,this,(hf i' pG).2.2.1 c (je hc),hr⟩
   ·intro y hy;simp only[kC,lp]at hy;obtain⟨i,hi,rfl⟩:=hy;exact (hf i hi).2.2.2
theorem gJ {T:TypeId}{fs:Array Field}{fuel:Nat}{cs:List Value}{x:DataW H×List MemPlace}(hu:P.underlying T=some (.struct fs))(h:DataW.trod qt P w 0 (λ_=>true) true fuel T cs=some x):
  cs.length=P.cellsOf T/\∃n,∀(i:Nat) (f:Field),fs[i]?=some f->∃y,DataW.trod qt P w 0 (λ_=>true) true n f.type ((cs.drop f.offset).take (P.cellsOf f.type))=some y:=by
 obtain⟨xs,n,_,_,hl,hlen,hf⟩:=DataW.trod_struct hu h;refine⟨hl,n,λi f hfi=>?_⟩;have:=hf i f hfi;have hi:i<xs.length:=by rw[hlen];exact (kR.1 hfi).1
 rw[jl hi]at this;exact⟨_,this⟩
theorem fG {F:Nat->Prop}{os:List Own}{xs ys:List AV}{us vs:List Value}(h1:Br F w os xs us)(h2:Br F w os ys vs):Br F w os (xs++ys) (us++vs):=
 DZ (by simp[BY h1,BY h2]) λi x u hx hu=>by
  have hl:=BY h1;rcases la i xs.length with hi|hi
  ·rw[jr hi]at hx;rw[jr (by omega)]at hu;obtain⟨u',h3,h4⟩:=CN h1 i x hx;rw[h3]at hu;cases hu;exact h4
  ·rw[jt hi]at hx;rw[jt (by omega),hl]at hu;obtain⟨u',h3,h4⟩:=CN h2 _ x hx;rw[h3]at hu;cases hu;exact h4
end
theorem iO {F:Nat->Prop}{w:World}{xs:List AV}{cs:Array Value}(h:Br F w [] xs cs.toList):Br F w [] [.agg xs] [.agg cs]:=by
 simp only[Br,Ae];exact⟨.agg cs,[],rfl,⟨cs.toList,by simp,h⟩,rfl⟩
theorem Ext.below {F':Nat->Prop}{w w':World}{os':List Own}(h:Ext (Old w) [] w F' os' w' 0):Below w.heap.size w w':=
 ⟨h.sys,h.tape,h.output,h.size,λb hb=>h.IJ b hb⟩
theorem Ab.law {P:Program}{f:FuncId}{args:List AV}{vs:List Value}{w:World}(h:Ab P f args [] λv st=>v=.bool true/\st=[])(hl:Br (Old w) w [] args vs):
  Calls P f vs.toArray w λe w'=>e=.returned (.bool true)/\Below w.heap.size w w':=by
 refine (h (Old w) [] w vs (G4.nil λb hb=>hb) hl).mono ?_;rintro e w' ⟨v,r,st',F',os',rfl,⟨rfl,rfl⟩,_,hr,he⟩;simp only[Ae]at hr;subst hr;exact⟨rfl,he.below⟩
end Go.Abs
