import Derived.Test.YtccficmcdkcpnaaGreatGAbsZPToSSDefs
import Derived.ProofKit
import Derived.OpenShut
import Derived.ShutString
import Derived.ChangeOld
import Derived.Deep.Slices
set_option linter.all false
namespace Go.Abs
open Go RC Go.ChangeShapes Go.WideShapes Go.ChangeAt Go.RowKit
def Old (w:World)(b:Nat):Prop:=b<w.heap.size
section
variable {H : Type} {xU : TypeId × Value -> H} {P : Program} {w : World}
def Rd {α:Type}(xU:TypeId×Value->H)(P:Program)(w:World)(T:TypeId)(enc:α->List AV)(YO:α->Prop):Prop:=
 ∀fuel cs x,DataW.trod xU P w 0 (λ_=>true) true fuel T cs=some x->∃a,Bw (Old w) w [] (enc a) cs/\(∀c∈enc a,c.leaf=true)/\YO a
theorem Rd.int {T:TypeId}(hu:P.underlying T=some (.int .i64)):Rd xU P w T eI JC:=λfuel cs x h=>by
 obtain⟨n,rfl,_,hw⟩:=DataW.trod_int hu h;refine⟨n,by simp[eI,Bw,Ac],by simp[eI,AV.leaf],?_⟩;have h1:IntKind.i64.min=-9223372036854775808:=by decide
 have h2:IntKind.i64.max=9223372036854775807:=by decide
 simp[Lit.wf]at hw;unfold JC;omega
theorem Rd.u8 {T:TypeId}(hu:P.underlying T=some (.int .u8)):Rd xU P w T Fi U8:=λfuel cs x h=>by
 obtain⟨n,rfl,_,hw⟩:=DataW.trod_int hu h;refine⟨n,by simp[Fi,Bw,Ac],by simp[Fi,AV.leaf],?_⟩;have h1:IntKind.u8.min=0:=by decide
 have h2:IntKind.u8.max=255:=by decide
 simp[Lit.wf]at hw;unfold U8;omega
theorem Rd.bool {T:TypeId}(hu:P.underlying T=some .bool):Rd xU P w T eB (λ_=>True):=λfuel cs x h=>by
 cases fuel with
 | zero=>simp[DataW.trod]at h
 | succ n=>
  unfold DataW.trod at h;rw[hu]at h;split at h<;>simp_all;rename_i b;have:Bw (Old w) w [] (eB b) [.bool b]/\∀c∈eB b,c.leaf=true:=⟨by simp[eB,Bw,Ac],by simp[eB,AV.leaf]⟩
  cases b
  ·exact .inl this
  ·exact .inr this
theorem et {a:Addr}{n:Nat}{cs:List Value}(h:w.cells? 0 a n=some cs)(hn:0<n):a.spot=none/\a.block<w.heap.size/\cs.length=n/\∀(j:Nat) v,cs[j]?=some v->w.cell? ⟨a.block,a.off+j,none⟩=some v:=by
 unfold World.cells? at h;rw[qF (qd _)]at h;have hm:=h;have hlen:cs.length=n:=by
  have :∀(l:List Nat) (cs:List Value),l.mapM (λi=>w.cell? (a.add i))=some cs->cs.length=l.length:=λl=>by
   induction l with
   | nil=>intro cs h;simp at h;subst h;rfl
   | cons i l ih=>
    intro cs h;rw[tB]at h;simp only[Option.bind_eq_bind,qh]at h;obtain⟨v,_,vs,h2,h3⟩:=h;simp at h3;subst h3;simp[ih vs h2]
  simpa using this _ _ h
 have vJ:∀(j:Nat) v,cs[j]?=some v->w.cell? (a.add j)=some v:=by
  have :∀(l:List Nat) (cs:List Value),l.mapM (λi=>w.cell? (a.add i))=some cs->∀(j:Nat) v i,cs[j]?=some v->l[j]?=some i->w.cell? (a.add i)=some v:=λl=>by
   induction l with
   | nil=>intro cs h j v i _ hi;simp at hi
   | cons i l ih=>
    intro cs h j v i' hv hi;rw[tB]at h;simp only[Option.bind_eq_bind,qh]at h;obtain⟨u,h1,vs,h2,h3⟩:=h;simp at h3;subst h3;cases j with
    | zero=>simp at hv hi;subst hv;subst hi;exact h1
    | succ j=>simp at hv hi;exact ih vs h2 j v i' hv hi
  intro j v hv;have hj:j<n:=by rw[<- hlen];exact (px.1 hv).1
  exact this _ _ h j v j hv (by simp[hj])
 have h0:∃v,cs[0]?=some v:=⟨cs[0]'(by omega),qD (by omega)⟩
 obtain⟨v0,hv0⟩:=h0;have wZ:=vJ 0 v0 hv0;have hspot:a.spot=none:=by
  have:=World.cell?_spot wZ;simpa [Addr.add] using this
 obtain⟨b,off,sp⟩:=a;simp only at hspot;subst hspot;have xT:∀j,(Addr.add ⟨b,off,none⟩ j)=⟨b,off+j,none⟩:=λj=>by
  unfold Addr.add;by_cases hj:j=0<;>simp[hj]
 refine⟨rfl,?_,hlen,λj v hv=>by rw[<- xT];exact vJ j v hv⟩;simp only;rw[xT]at wZ;rcases rn b w.heap.size with hb|hb
 ·exact hb
 ·have:w.heap[b]?=none:=sy hb;simp[World.cell?,this]at wZ
theorem Rd.slice {α:Type}{T e:TypeId}{enc:α->List AV}{YO:α->Prop}(hu:P.underlying T=some (.slice e))(vY:0<P.cellsOf e)(hE:Rd xU P w e enc YO):
  Rd xU P w T (eS enc) (IJ YO):=λfuel cs x h=>by
 rcases Deep.open_slice hu h with ⟨rfl,_⟩|⟨a,len,cap,m,n,D,Pl,rfl,_,hl,hm,hmm,_,hx⟩
 ·exact⟨[],by simp[eS,Bw,Ac],by simp[eS,AV.leaf],by simp[IJ]⟩
 ·have hm':m=cap:=by simpa using hmm
  subst hm';have hex:∀i,i<len->∃p:α×List Value,w.cells? 0 (a.add (i*P.cellsOf e)) (P.cellsOf e)=some p.2/\Bw (Old w) w [] (enc p.1) p.2/\(∀c∈enc p.1,c.leaf=true)/\YO p.1:=λi hi=>by
   obtain⟨cs',h1,h2⟩:=hx i (by omega);obtain⟨y,h3,h4,h5⟩:=hE _ _ _ h2;exact⟨(y,cs'),h1,h3,h4,h5⟩
  rcases sC len with h0|h0
  ·subst h0;exact⟨[],by simp[eS,Bw,Ac],by simp[eS,AV.leaf],by simp[IJ]⟩
  ·obtain⟨p0,_⟩:=hex 0 h0
   let d:Inhabited (α×List Value):=⟨p0⟩
   obtain⟨f,hf⟩:=Deep.choose_lt hex;have zR:=λi hi=>et (hf i hi).1 vY;have xT:∀i,(a.add i).block=a.block/\(a.add i).off=a.off+i:=λi=>by
    unfold Addr.add;by_cases hj:i=0<;>simp[hj]
   obtain⟨hs0,hb0,_,_⟩:=zR 0 h0;have ha:a.spot=none:=by simpa [Addr.add] using hs0
   obtain⟨b,off,sp⟩:=a;simp only at ha;subst ha;refine⟨(List.range len).map λi=>(f i).1,?_,by simp[eS,AV.leaf],?_,by simp[maxLen]at hm⊢;omega⟩
   ·simp only[eS,Bw,Ac];refine⟨_,[],rfl,⟨_,m,by simp,by simp;omega,λ_=>⟨b,off,P.cellsOf e,rfl,by unfold Old;simpa [xT] using hb0,λy hy=>?_,?_⟩⟩,rfl⟩
    ·simp only[qT,rm]at hy;obtain⟨_,⟨i,hi,rfl⟩,rfl⟩:=hy;rw[<- BW (hf i hi).2.1];exact (zR i hi).2.2.1
    ·refine L8 (size:=P.cellsOf e) (λy hy=>?_) λi y hy=>?_
     ·simp only[qT,rm]at hy;obtain⟨_,⟨i,hi,rfl⟩,rfl⟩:=hy;rw[<- BW (hf i hi).2.1];exact (zR i hi).2.2.1
     ·simp only[qA,qB]at hy;obtain⟨_,⟨i',xj,rfl⟩,rfl⟩:=hy;have vS:i<len:=by
       have:=(px.1 xj).1;simpa using this
      have hii:i'=i:=by
       rw[sH vS]at xj;simpa using xj.symm
      subst hii;refine LG λj c hc=>?_;obtain⟨u,xB,hr⟩:=CJ (hf i' vS).2.1 j c hc;have:=(zR i' vS).2.2.2 j u xB;simp only[xT]at this;exact⟨u,this,(hf i' vS).2.2.1 c (pt hc),hr⟩
   ·intro y hy;simp only[qT,rm]at hy;obtain⟨i,hi,rfl⟩:=hy;exact (hf i hi).2.2.2
theorem mn {T:TypeId}{fs:Array Field}{fuel:Nat}{cs:List Value}{x:DataW H×List MemPlace}(hu:P.underlying T=some (.struct fs))(h:DataW.trod xU P w 0 (λ_=>true) true fuel T cs=some x):
  cs.length=P.cellsOf T/\∃n,∀(i:Nat) (f:Field),fs[i]?=some f->∃y,DataW.trod xU P w 0 (λ_=>true) true n f.type ((cs.drop f.offset).take (P.cellsOf f.type))=some y:=by
 obtain⟨xs,n,_,_,hl,hlen,hf⟩:=DataW.trod_struct hu h;refine⟨hl,n,λi f hfi=>?_⟩;have:=hf i f hfi;have hi:i<xs.length:=by rw[hlen];exact (qv.1 hfi).1
 rw[qD hi]at this;exact⟨_,this⟩
theorem lz {F:Nat->Prop}{os:List Own}{xs ys:List AV}{us vs:List Value}(h1:Bw F w os xs us)(h2:Bw F w os ys vs):Bw F w os (xs++ys) (us++vs):=
 Df (by simp[BW h1,BW h2]) λi x u hx hu=>by
  have hl:=BW h1;rcases rn i xs.length with hi|hi
  ·rw[qK hi]at hx;rw[qK (by omega)]at hu;obtain⟨u',h3,h4⟩:=CJ h1 i x hx;rw[h3]at hu;cases hu;exact h4
  ·rw[qS hi]at hx;rw[qS (by omega),hl]at hu;obtain⟨u',h3,h4⟩:=CJ h2 _ x hx;rw[h3]at hu;cases hu;exact h4
end
theorem oR {F:Nat->Prop}{w:World}{xs:List AV}{cs:Array Value}(h:Bw F w [] xs cs.toList):Bw F w [] [.agg xs] [.agg cs]:=by
 simp only[Bw,Ac];exact⟨.agg cs,[],rfl,⟨cs.toList,by simp,h⟩,rfl⟩
theorem Ext.below {F':Nat->Prop}{w w':World}{os':List Own}(h:Ext (Old w) [] w F' os' w' 0):Below w.heap.size w w':=
 ⟨h.sys,h.tape,h.output,h.size,λb hb=>h.KX b hb⟩
theorem BS.law {P:Program}{f:FuncId}{args:List AV}{vs:List Value}{w:World}(h:BS P f args [] λv st=>v=.bool true/\st=[])(hl:Bw (Old w) w [] args vs):
  Calls P f vs.toArray w λe w'=>e=.returned (.bool true)/\Below w.heap.size w w':=by
 refine (h (Old w) [] w vs (IY.nil λb hb=>hb) hl).mono ?_;rintro e w' ⟨v,r,st',F',os',rfl,⟨rfl,rfl⟩,_,hr,he⟩;simp only[Ac]at hr;subst hr;exact⟨rfl,he.below⟩
end Go.Abs
