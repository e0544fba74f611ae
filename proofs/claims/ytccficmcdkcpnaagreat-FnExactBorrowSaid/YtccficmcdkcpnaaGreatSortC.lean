import Derived.Test.YtccficmcdkcpnaaGreatGAbsZPToSSDefs
import Derived.Sort.OwnSortedInts
set_option linter.all false
namespace Go.Abs
open Go Go.Sort RC
theorem ZB {F:Nat->Prop}{w:World}{os:List Own}{cur:Array Value}{l:List Int}(h :∀(i:Nat) x,(l.map eI)[i]?=some x->∀(j:Nat) c,x[j]?=some c->∃u,cur[i*1+j]?=some u/\AU F w os c u):cur.toList.take l.length=l.map (Value.int .i64):=by
 apply oU;intro j;by_cases hj:j<l.length
 ·rw[List.getElem?_take_of_lt hj,nz,mX,mY hj];obtain⟨u,h1,h2⟩:=h j (eI l[j]) (by rw[mX,mY hj];rfl) 0 _ rfl;rw[qh,po]at h1;simp only[AU]at h2;rw[h1,h2];rfl
 ·rw[List.getElem?_take_eq_none (by omega),nG (by simp;omega)]
theorem ZL {F:Nat->Prop}{w:World}{os:List Own}{cur:Array Value}{l:List Int}(h:cur.toList.take l.length=l.map (Value.int .i64)):∀(i:Nat) x,(l.map eI)[i]?=some x->∀(j:Nat) c,x[j]?=some c->∃u,cur[i*1+j]?=some u/\AU F w os c u:=by
 intro i x hx j c hc;rw[mX,mZ]at hx;obtain⟨z,hz,rfl⟩:=hx;have hi:=(mT.1 hz).1;cases j with
 | zero=>
  have:c=i64 z:=by simpa [eI] using hc.symm
  subst this;have h1:=nO (λq=>q[i]?) h;simp only[List.getElem?_take_of_lt hi,nz,mX,hz,nS]at h1;exact⟨_,by rw[qh,po];exact h1,by simp[AU]⟩
 | succ j=>simp[eI]at hc
variable {P : Program} {f : FuncId} {g el : Nat} {l : List Int}
end Go.Abs
