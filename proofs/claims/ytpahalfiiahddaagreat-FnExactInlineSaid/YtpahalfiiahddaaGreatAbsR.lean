import Derived.Test.YtpahalfiiahddaaGreatGAbsZPToSSDefs
import Derived.ProofKit
import Derived.OpenShut
import Derived.ShutString
import Derived.ChangeOld
import Derived.Deep.Slices

namespace Go.Abs
open Go RC Go.ChangeShapes Go.WideShapes Go.ChangeAt Go.RowKit
def Old (w:World) (b:Nat):Prop:=b < w.heap.size
section
variable {H : Type} {encH : TypeId × Value → H} {P : Program} {w : World}
def Rd {α:Type} (encH:TypeId×Value→H) (P:Program) (w:World) (T:TypeId) (enc:α→List AV) (good:α→Prop):Prop:=
 ∀fuel cs x,DataW.trod encH P w 0 (fun _=>true) true fuel T cs=some x→∃a,BG (Old w) w [] (enc a) cs∧(∀c∈enc a,c.leaf=true)∧good a
theorem Rd.int {T:TypeId} (hu:P.underlying T=some (.int .i64)):Rd encH P w T eI GL:=fun fuel cs x h=>by
 obtain⟨n,rfl,_,hw⟩:=DataW.trod_int hu h
 refine⟨n,by simp[eI,BG,Ae],by simp[eI,AV.leaf],?_⟩
 have h1:IntKind.i64.min=-9223372036854775808:=by decide
 have h2:IntKind.i64.max=9223372036854775807:=by decide
 simp[Lit.wf] at hw
 unfold GL
 omega
theorem Rd.u8 {T:TypeId} (hu:P.underlying T=some (.int .u8)):Rd encH P w T YC U8:=fun fuel cs x h=>by
 obtain⟨n,rfl,_,hw⟩:=DataW.trod_int hu h
 refine⟨n,by simp[YC,BG,Ae],by simp[YC,AV.leaf],?_⟩
 have h1:IntKind.u8.min=0:=by decide
 have h2:IntKind.u8.max=255:=by decide
 simp[Lit.wf] at hw
 unfold U8
 omega
theorem Rd.bool {T:TypeId} (hu:P.underlying T=some .bool):Rd encH P w T eB (fun _=>True):=fun fuel cs x h=>by
 cases fuel with
 | zero=>simp[DataW.trod] at h
 | succ n=>
  unfold DataW.trod at h
  rw[hu] at h
  split at h <;> simp_all
  rename_i b
  have:BG (Old w) w [] (eB b) [.bool b]∧∀c∈eB b,c.leaf=true:=⟨by simp[eB,BG,Ae],by simp[eB,AV.leaf]⟩
  cases b
  ·exact .inl this
  ·exact .inr this
theorem T1 {a:Addr} {n:Nat} {cs:List Value} (h:w.cells? 0 a n=some cs) (hn:0 < n):a.spot=none∧a.block < w.heap.size∧cs.length=n∧∀(j:Nat) v,cs[j]?=some v→w.cell? ⟨a.block,a.off+j,none⟩=some v:=by
 unfold World.cells? at h
 rw[if_pos (Nat.zero_le _)] at h
 have hm:=h
 have hlen:cs.length=n:=by
  have :∀(l:List Nat) (cs:List Value),l.mapM (fun i=>w.cell? (a.add i))=some cs→cs.length=l.length:=fun l=>by
   induction l with
   | nil=>intro cs h;simp at h;subst h;rfl
   | cons i l ih=>
    intro cs h
    rw[List.mapM_cons] at h
    simp only[Option.bind_eq_bind,Option.bind_eq_some_iff] at h
    obtain⟨v,_,vs,h2,h3⟩:=h
    simp at h3;subst h3
    simp[ih vs h2]
  simpa using this _ _ h
 have hget :∀(j:Nat) v,cs[j]?=some v→w.cell? (a.add j)=some v:=by
  have :∀(l:List Nat) (cs:List Value),l.mapM (fun i=>w.cell? (a.add i))=some cs→∀(j:Nat) v i,cs[j]?=some v→l[j]?=some i→w.cell? (a.add i)=some v:=fun l=>by
   induction l with
   | nil=>intro cs h j v i _ hi;simp at hi
   | cons i l ih=>
    intro cs h j v i' hv hi
    rw[List.mapM_cons] at h
    simp only[Option.bind_eq_bind,Option.bind_eq_some_iff] at h
    obtain⟨u,h1,vs,h2,h3⟩:=h
    simp at h3;subst h3
    cases j with
    | zero=>simp at hv hi;subst hv;subst hi;exact h1
    | succ j=>simp at hv hi;exact ih vs h2 j v i' hv hi
  intro j v hv
  have hj:j < n:=by rw[← hlen];exact (List.getElem?_eq_some_iff.1 hv).1
  exact this _ _ h j v j hv (by simp[hj])
 have h0 :∃v,cs[0]?=some v:=⟨cs[0]'(by omega),List.getElem?_eq_getElem (by omega)⟩
 obtain⟨v0,hv0⟩:=h0
 have hc0:=hget 0 v0 hv0
 have hspot:a.spot=none:=by
  have:=World.cell?_spot hc0
  simpa [Addr.add] using this
 obtain⟨b,off,sp⟩:=a
 simp only at hspot
 subst hspot
 have hadd :∀j,(Addr.add ⟨b,off,none⟩ j)=⟨b,off+j,none⟩:=fun j=>by
  unfold Addr.add
  by_cases hj:j=0 <;> simp[hj]
 refine⟨rfl,?_,hlen,fun j v hv=>by rw[← hadd];exact hget j v hv⟩
 simp only
 rw[hadd] at hc0
 rcases Nat.lt_or_ge b w.heap.size with hb | hb
 ·exact hb
 ·have:w.heap[b]?=none:=Array.getElem?_eq_none hb
  simp[World.cell?,this] at hc0
theorem Rd.slice {α:Type} {T e:TypeId} {enc:α→List AV} {good:α→Prop} (hu:P.underlying T=some (.slice e)) (hsz:0 < P.cellsOf e) (hE:Rd encH P w e enc good) :
  Rd encH P w T (eS enc) (Es good):=fun fuel cs x h=>by
 rcases Deep.open_slice hu h with ⟨rfl,_⟩ | ⟨a,len,cap,m,n,D,Pl,rfl,_,hl,hm,hmm,_,hx⟩
 ·exact⟨[],by simp[eS,BG,Ae],by simp[eS,AV.leaf],by simp[Es]⟩
 ·have hm':m=cap:=by simpa using hmm
  subst hm'
  have hex :∀i,i < len→∃p:α×List Value,w.cells? 0 (a.add (i * P.cellsOf e)) (P.cellsOf e)=some p.2∧BG (Old w) w [] (enc p.1) p.2∧(∀c∈enc p.1,c.leaf=true)∧good p.1:=fun i hi=>by
   obtain⟨cs',h1,h2⟩:=hx i (by omega)
   obtain⟨y,h3,h4,h5⟩:=hE _ _ _ h2
   exact⟨(y,cs'),h1,h3,h4,h5⟩
  rcases Nat.eq_zero_or_pos len with h0 | h0
  ·subst h0
   exact⟨[],by simp[eS,BG,Ae],by simp[eS,AV.leaf],by simp[Es]⟩
  ·obtain⟨p0,_⟩:=hex 0 h0
   let d:Inhabited (α×List Value):=⟨p0⟩
   obtain⟨f,hf⟩:=Deep.choose_lt hex
   have hal:=fun i hi=>T1 (hf i hi).1 hsz
   have hadd :∀i,(a.add i).block=a.block∧(a.add i).off=a.off+i:=fun i=>by
    unfold Addr.add
    by_cases hj:i=0 <;> simp[hj]
   obtain⟨hs0,hb0,_,_⟩:=hal 0 h0
   have ha:a.spot=none:=by simpa [Addr.add] using hs0
   obtain⟨b,off,sp⟩:=a
   simp only at ha
   subst ha
   refine⟨(List.range len).map fun i=>(f i).1,?_,by simp[eS,AV.leaf],?_,by simp[maxLen] at hm ⊢;omega⟩
   ·simp only[eS,BG,Ae]
    refine⟨_,[],rfl,⟨_,m,by simp,by simp;omega,fun _=>⟨b,off,P.cellsOf e,rfl,by unfold Old;simpa [hadd] using hb0,fun y hy=>?_,?_⟩⟩,rfl⟩
    ·simp only[List.mem_map,List.mem_range] at hy
     obtain⟨_,⟨i,hi,rfl⟩,rfl⟩:=hy
     rw[← A6 (hf i hi).2.1]
     exact (hal i hi).2.2.1
    ·refine Is (size:=P.cellsOf e) (fun y hy=>?_) fun i y hy=>?_
     ·simp only[List.mem_map,List.mem_range] at hy
      obtain⟨_,⟨i,hi,rfl⟩,rfl⟩:=hy
      rw[← A6 (hf i hi).2.1]
      exact (hal i hi).2.2.1
     ·simp only[List.getElem?_map,Option.map_eq_some_iff] at hy
      obtain⟨_,⟨i',hi',rfl⟩,rfl⟩:=hy
      have hlt:i < len:=by
       have:=(List.getElem?_eq_some_iff.1 hi').1
       simpa using this
      have hii:i'=i:=by
       rw[List.getElem?_range hlt] at hi'
       simpa using hi'.symm
      subst hii
      refine Hn fun j c hc=>?_
      obtain⟨u,hu',hr⟩:=BX (hf i' hlt).2.1 j c hc
      have:=(hal i' hlt).2.2.2 j u hu'
      simp only[hadd] at this
      exact⟨u,this,(hf i' hlt).2.2.1 c (List.mem_of_getElem? hc),hr⟩
   ·intro y hy
    simp only[List.mem_map,List.mem_range] at hy
    obtain⟨i,hi,rfl⟩:=hy
    exact (hf i hi).2.2.2
theorem LP {T:TypeId} {fs:Array Field} {fuel:Nat} {cs:List Value} {x:DataW H×List MemPlace} (hu:P.underlying T=some (.struct fs)) (h:DataW.trod encH P w 0 (fun _=>true) true fuel T cs=some x) :
  cs.length=P.cellsOf T∧∃n,∀(i:Nat) (f:Field),fs[i]?=some f→∃y,DataW.trod encH P w 0 (fun _=>true) true n f.type ((cs.drop f.offset).take (P.cellsOf f.type))=some y:=by
 obtain⟨xs,n,_,_,hl,hlen,hf⟩:=DataW.trod_struct hu h
 refine⟨hl,n,fun i f hfi=>?_⟩
 have:=hf i f hfi
 have hi:i < xs.length:=by rw[hlen];exact (Array.getElem?_eq_some_iff.1 hfi).1
 rw[List.getElem?_eq_getElem hi] at this
 exact⟨_,this⟩
theorem D6 {F:Nat→Prop} {os:List Own} {xs ys:List AV} {us vs:List Value} (h1:BG F w os xs us) (h2:BG F w os ys vs):BG F w os (xs ++ ys) (us ++ vs):=
 Cv (by simp[A6 h1,A6 h2]) fun i x u hx hu=>by
  have hl:=A6 h1
  rcases Nat.lt_or_ge i xs.length with hi | hi
  ·rw[List.getElem?_append_left hi] at hx
   rw[List.getElem?_append_left (by omega)] at hu
   obtain⟨u',h3,h4⟩:=BX h1 i x hx
   rw[h3] at hu;cases hu;exact h4
  ·rw[List.getElem?_append_right hi] at hx
   rw[List.getElem?_append_right (by omega),hl] at hu
   obtain⟨u',h3,h4⟩:=BX h2 _ x hx
   rw[h3] at hu;cases hu;exact h4
end
theorem Zz {F:Nat→Prop} {w:World} {xs:List AV} {cs:Array Value} (h:BG F w [] xs cs.toList):BG F w [] [.agg xs] [.agg cs]:=by
 simp only[BG,Ae]
 exact⟨.agg cs,[],rfl,⟨cs.toList,by simp,h⟩,rfl⟩
theorem Ext.below {F':Nat→Prop} {w w':World} {os':List Own} (h:Ext (Old w) [] w F' os' w' 0):Below w.heap.size w w':=
 ⟨h.sys,h.tape,h.output,h.size,fun b hb=>h.HP b hb⟩
theorem Aa.law {P:Program} {f:FuncId} {args:List AV} {vs:List Value} {w:World} (h:Aa P f args [] fun v st=>v=.bool true∧st=[]) (hl:BG (Old w) w [] args vs) :
  Calls P f vs.toArray w fun e w'=>e=.returned (.bool true)∧Below w.heap.size w w':=by
 refine (h (Old w) [] w vs (Ft.nil fun b hb=>hb) hl).mono ?_
 rintro e w' ⟨v,r,st',F',os',rfl,⟨rfl,rfl⟩,_,hr,he⟩
 simp only[Ae] at hr
 subst hr
 exact⟨rfl,he.below⟩
end Go.Abs

