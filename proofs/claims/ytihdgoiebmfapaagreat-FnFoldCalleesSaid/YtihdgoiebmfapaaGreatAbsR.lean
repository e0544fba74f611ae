import Derived.Test.YtihdgoiebmfapaaGreatGAbsZPToSSDefs
import Derived.ProofKit
import Derived.OpenShut
import Derived.ShutString
import Derived.ChangeOld
import Derived.Deep.Slices
set_option linter.all false
namespace Go.Abs
open Go RC Go.ChangeShapes Go.WideShapes Go.ChangeAt Go.RowKit
def Old (w:World)(b:Nat):Prop:=b<w.heap.size
section
variable {H : Type} {sm : TypeId × Value -> H} {P : Program} {w : World}
def Rd {α:Type}(sm:TypeId×Value->H)(P:Program)(w:World)(T:TypeId)(enc:α->List AV)(Wy:α->Prop):Prop:=
 ∀fuel cs x,DataW.trod sm P w 0 (λ_=>true) true fuel T cs=some x->∃a,Bs (Old w) w [] (enc a) cs/\(∀c∈enc a,c.leaf=true)/\Wy a
theorem Rd.int {T:TypeId}(hu:P.underlying T=some (.int .i64)):Rd sm P w T eI G3:=λfuel cs x h=>by
 obtain⟨n,rfl,_,hw⟩:=DataW.trod_int hu h;refine⟨n,by simp[eI,Bs,Ae],by simp[eI,AV.leaf],?_⟩;have h1:IntKind.i64.min=-9223372036854775808:=by decide
 have h2:IntKind.i64.max=9223372036854775807:=by decide
 simp[Lit.wf]at hw;unfold G3;omega
theorem Rd.u8 {T:TypeId}(hu:P.underlying T=some (.int .u8)):Rd sm P w T E8 U8:=λfuel cs x h=>by
 obtain⟨n,rfl,_,hw⟩:=DataW.trod_int hu h;refine⟨n,by simp[E8,Bs,Ae],by simp[E8,AV.leaf],?_⟩;have h1:IntKind.u8.min=0:=by decide
 have h2:IntKind.u8.max=255:=by decide
 simp[Lit.wf]at hw;unfold U8;omega
theorem Rd.bool {T:TypeId}(hu:P.underlying T=some .bool):Rd sm P w T eB (λ_=>True):=λfuel cs x h=>by
 cases fuel with
 | zero=>simp[DataW.trod]at h
 | succ n=>
  unfold DataW.trod at h;rw[hu]at h;split at h<;>simp_all;rename_i b;have:Bs (Old w) w [] (eB b) [.bool b]/\∀c∈eB b,c.leaf=true:=⟨by simp[eB,Bs,Ae],by simp[eB,AV.leaf]⟩
  cases b
  ·exact .inl this
  ·exact .inr this
theorem bR {a:Addr}{n:Nat}{cs:List Value}(h:w.cells? 0 a n=some cs)(hn:0<n):a.spot=none/\a.block<w.heap.size/\cs.length=n/\∀(j:Nat) v,cs[j]?=some v->w.cell? ⟨a.block,a.off+j,none⟩=some v:=by
 unfold World.cells? at h;rw[ld (mB _)]at h;have hm:=h;have hlen:cs.length=n:=by
  have :∀(l:List Nat) (cs:List Value),l.mapM (λi=>w.cell? (a.add i))=some cs->cs.length=l.length:=λl=>by
   induction l with
   | nil=>intro cs h;simp at h;subst h;rfl
   | cons i l ih=>
    intro cs h;rw[og]at h;simp only[Option.bind_eq_bind,mR]at h;obtain⟨v,_,vs,h2,h3⟩:=h;simp at h3;subst h3;simp[ih vs h2]
  simpa using this _ _ h
 have qi:∀(j:Nat) v,cs[j]?=some v->w.cell? (a.add j)=some v:=by
  have :∀(l:List Nat) (cs:List Value),l.mapM (λi=>w.cell? (a.add i))=some cs->∀(j:Nat) v i,cs[j]?=some v->l[j]?=some i->w.cell? (a.add i)=some v:=λl=>by
   induction l with
   | nil=>intro cs h j v i _ hi;simp at hi
   | cons i l ih=>
    intro cs h j v i' hv hi;rw[og]at h;simp only[Option.bind_eq_bind,mR]at h;obtain⟨u,h1,vs,h2,h3⟩:=h;simp at h3;subst h3;cases j with
    | zero=>simp at hv hi;subst hv;subst hi;exact h1
    | succ j=>simp at hv hi;exact ih vs h2 j v i' hv hi
  intro j v hv;have hj:j<n:=by rw[<- hlen];exact (lV.1 hv).1
  exact this _ _ h j v j hv (by simp[hj])
 have h0:∃v,cs[0]?=some v:=⟨cs[0]'(by omega),lZ (by omega)⟩
 obtain⟨v0,hv0⟩:=h0;have sZ:=qi 0 v0 hv0;have zE:a.spot=none:=by
  have:=World.cell?_spot sZ;simpa [Addr.add] using this
 obtain⟨b,off,sp⟩:=a;simp only at zE;subst zE;have tY:∀j,(Addr.add ⟨b,off,none⟩ j)=⟨b,off+j,none⟩:=λj=>by
  unfold Addr.add;by_cases hj:j=0<;>simp[hj]
 refine⟨rfl,?_,hlen,λj v hv=>by rw[<- tY];exact qi j v hv⟩;simp only;rw[tY]at sZ;rcases nb b w.heap.size with hb|hb
 ·exact hb
 ·have:w.heap[b]?=none:=od hb;simp[World.cell?,this]at sZ
theorem Rd.slice {α:Type}{T e:TypeId}{enc:α->List AV}{Wy:α->Prop}(hu:P.underlying T=some (.slice e))(rC:0<P.cellsOf e)(hE:Rd sm P w e enc Wy):
  Rd sm P w T (eS enc) (IU Wy):=λfuel cs x h=>by
 rcases Deep.open_slice hu h with ⟨rfl,_⟩|⟨a,len,cap,m,n,D,Pl,rfl,_,hl,hm,yX,_,hx⟩
 ·exact⟨[],by simp[eS,Bs,Ae],by simp[eS,AV.leaf],by simp[IU]⟩
 ·have wc:m=cap:=by simpa using yX
  subst wc;have hex:∀i,i<len->∃p:α×List Value,w.cells? 0 (a.add (i*P.cellsOf e)) (P.cellsOf e)=some p.2/\Bs (Old w) w [] (enc p.1) p.2/\(∀c∈enc p.1,c.leaf=true)/\Wy p.1:=λi hi=>by
   obtain⟨cs',h1,h2⟩:=hx i (by omega);obtain⟨y,h3,h4,h5⟩:=hE _ _ _ h2;exact⟨(y,cs'),h1,h3,h4,h5⟩
  rcases nr len with h0|h0
  ·subst h0;exact⟨[],by simp[eS,Bs,Ae],by simp[eS,AV.leaf],by simp[IU]⟩
  ·obtain⟨p0,_⟩:=hex 0 h0
   let d:Inhabited (α×List Value):=⟨p0⟩
   obtain⟨f,hf⟩:=Deep.choose_lt hex;have wV:=λi hi=>bR (hf i hi).1 rC;have tY:∀i,(a.add i).block=a.block/\(a.add i).off=a.off+i:=λi=>by
    unfold Addr.add;by_cases hj:i=0<;>simp[hj]
   obtain⟨hs0,ye,_,_⟩:=wV 0 h0;have ha:a.spot=none:=by simpa [Addr.add] using hs0
   obtain⟨b,off,sp⟩:=a;simp only at ha;subst ha;refine⟨(List.range len).map λi=>(f i).1,?_,by simp[eS,AV.leaf],?_,by simp[maxLen]at hm⊢;omega⟩
   ·simp only[eS,Bs,Ae];refine⟨_,[],rfl,⟨_,m,by simp,by simp;omega,λ_=>⟨b,off,P.cellsOf e,rfl,by unfold Old;simpa [tY] using ye,λy hy=>?_,?_⟩⟩,rfl⟩
    ·simp only[mA,na]at hy;obtain⟨_,⟨i,hi,rfl⟩,rfl⟩:=hy;rw[<- BZ (hf i hi).2.1];exact (wV i hi).2.2.1
    ·refine Lj (size:=P.cellsOf e) (λy hy=>?_) λi y hy=>?_
     ·simp only[mA,na]at hy;obtain⟨_,⟨i,hi,rfl⟩,rfl⟩:=hy;rw[<- BZ (hf i hi).2.1];exact (wV i hi).2.2.1
     ·simp only[lW,lg]at hy;obtain⟨_,⟨i',tD,rfl⟩,rfl⟩:=hy;have qw:i<len:=by
       have:=(lV.1 tD).1;simpa using this
      have wo:i'=i:=by
       rw[nM qw]at tD;simpa using tD.symm
      subst wo;refine Km λj c hc=>?_;obtain⟨u,sK,hr⟩:=CO (hf i' qw).2.1 j c hc;have:=(wV i' qw).2.2.2 j u sK;simp only[tY]at this;exact⟨u,this,(hf i' qw).2.2.1 c (lT hc),hr⟩
   ·intro y hy;simp only[mA,na]at hy;obtain⟨i,hi,rfl⟩:=hy;exact (hf i hi).2.2.2
theorem jC {T:TypeId}{fs:Array Field}{fuel:Nat}{cs:List Value}{x:DataW H×List MemPlace}(hu:P.underlying T=some (.struct fs))(h:DataW.trod sm P w 0 (λ_=>true) true fuel T cs=some x):
  cs.length=P.cellsOf T/\∃n,∀(i:Nat) (f:Field),fs[i]?=some f->∃y,DataW.trod sm P w 0 (λ_=>true) true n f.type ((cs.drop f.offset).take (P.cellsOf f.type))=some y:=by
 obtain⟨xs,n,_,_,hl,hlen,hf⟩:=DataW.trod_struct hu h;refine⟨hl,n,λi f hfi=>?_⟩;have:=hf i f hfi;have hi:i<xs.length:=by rw[hlen];exact (mO.1 hfi).1
 rw[lZ hi]at this;exact⟨_,this⟩
theorem hH {F:Nat->Prop}{os:List Own}{xs ys:List AV}{us vs:List Value}(h1:Bs F w os xs us)(h2:Bs F w os ys vs):Bs F w os (xs++ys) (us++vs):=
 Db (by simp[BZ h1,BZ h2]) λi x u hx hu=>by
  have hl:=BZ h1;rcases nb i xs.length with hi|hi
  ·rw[lj hi]at hx;rw[lj (by omega)]at hu;obtain⟨u',h3,h4⟩:=CO h1 i x hx;rw[h3]at hu;cases hu;exact h4
  ·rw[ln hi]at hx;rw[ln (by omega),hl]at hu;obtain⟨u',h3,h4⟩:=CO h2 _ x hx;rw[h3]at hu;cases hu;exact h4
end
theorem kC {F:Nat->Prop}{w:World}{xs:List AV}{cs:Array Value}(h:Bs F w [] xs cs.toList):Bs F w [] [.agg xs] [.agg cs]:=by
 simp only[Bs,Ae];exact⟨.agg cs,[],rfl,⟨cs.toList,by simp,h⟩,rfl⟩
theorem Ext.below {F':Nat->Prop}{w w':World}{os':List Own}(h:Ext (Old w) [] w F' os' w' 0):Below w.heap.size w w':=
 ⟨h.sys,h.tape,h.output,h.size,λb hb=>h.IX b hb⟩
theorem Ab.law {P:Program}{f:FuncId}{args:List AV}{vs:List Value}{w:World}(h:Ab P f args [] λv st=>v=.bool true/\st=[])(hl:Bs (Old w) w [] args vs):
  Calls P f vs.toArray w λe w'=>e=.returned (.bool true)/\Below w.heap.size w w':=by
 refine (h (Old w) [] w vs (HF.nil λb hb=>hb) hl).mono ?_;rintro e w' ⟨v,r,st',F',os',rfl,⟨rfl,rfl⟩,_,hr,he⟩;simp only[Ae]at hr;subst hr;exact⟨rfl,he.below⟩
end Go.Abs
