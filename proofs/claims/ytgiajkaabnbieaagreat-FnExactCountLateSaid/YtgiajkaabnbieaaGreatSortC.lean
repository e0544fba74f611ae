import Derived.Test.YtgiajkaabnbieaaGreatGAbsZPToSSDefs
import Derived.Sort.OwnSortedInts
set_option linter.all false
namespace Go.Abs
open Go Go.Sort RC
theorem Z6 {F:Nat->Prop}{w:World}{os:List Own}{cur:Array Value}{l:List Int}(h :∀(i:Nat) x,(l.map eI)[i]?=some x->∀(j:Nat) c,x[j]?=some c->∃u,cur[i*1+j]?=some u/\Ae F w os c u):cur.toList.take l.length=l.map (Value.int .i64):=by
 apply pJ;intro j;by_cases hj:j<l.length
 ·rw[List.getElem?_take_of_lt hj,na,mG,mH hj];obtain⟨u,h1,h2⟩:=h j (eI l[j]) (by rw[mG,mH hj];rfl) 0 _ rfl;rw[qF,oc]at h1;simp only[Ae]at h2;rw[h1,h2];rfl
 ·rw[List.getElem?_take_eq_none (by omega),nH (by simp;omega)]
theorem aC {F:Nat->Prop}{w:World}{os:List Own}{cur:Array Value}{l:List Int}(h:cur.toList.take l.length=l.map (Value.int .i64)):∀(i:Nat) x,(l.map eI)[i]?=some x->∀(j:Nat) c,x[j]?=some c->∃u,cur[i*1+j]?=some u/\Ae F w os c u:=by
 intro i x hx j c hc;rw[mG,mK]at hx;obtain⟨z,hz,rfl⟩:=hx;have hi:=(mC.1 hz).1;cases j with
 | zero=>
  have:c=i64 z:=by simpa [eI] using hc.symm
  subst this;have h1:=mr (λq=>q[i]?) h;simp only[List.getElem?_take_of_lt hi,na,mG,hz,nC]at h1;exact⟨_,by rw[qF,oc];exact h1,by simp[Ae]⟩
 | succ j=>simp[eI]at hc
variable {P : Program} {f : FuncId} {g el : Nat} {l : List Int}
end Go.Abs
