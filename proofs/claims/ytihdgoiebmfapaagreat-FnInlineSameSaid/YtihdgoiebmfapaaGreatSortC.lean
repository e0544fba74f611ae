import Derived.Test.YtihdgoiebmfapaaGreatGAbsZPToSSDefs
import Derived.Sort.OwnSortedInts
set_option linter.all false
namespace Go.Abs
open Go Go.Sort RC
theorem Vu {F:Nat->Prop}{w:World}{os:List Own}{cur:Array Value}{l:List Int}(h :∀(i:Nat) x,(l.map eI)[i]?=some x->∀(j:Nat) c,x[j]?=some c->∃u,cur[i*1+j]?=some u/\Ab F w os c u):cur.toList.take l.length=l.map (Value.int .i64):=by
 apply qj;intro j;by_cases hj:j<l.length
 .rw[List.getElem?_take_of_lt hj,qw,pB,pF hj];obtain⟨u,h1,h2⟩:=h j (eI l[j]) (by rw[pB,pF hj];rfl) 0 _ rfl;rw[ri,qo]at h1;simp only[Ab]at h2;rw[h1,h2];rfl
 .rw[List.getElem?_take_eq_none (by omega),qA (by simp;omega)]
theorem cw {F:Nat->Prop}{w:World}{os:List Own}{cur:Array Value}{l:List Int}(h:cur.toList.take l.length=l.map (Value.int .i64)):∀(i:Nat) x,(l.map eI)[i]?=some x->∀(j:Nat) c,x[j]?=some c->∃u,cur[i*1+j]?=some u/\Ab F w os c u:=by
 intro i x hx j c hc;rw[pB,pH]at hx;obtain⟨z,hz,rfl⟩:=hx;have hi:=(pA.1 hz).1;cases j with
 |zero=>
  have:c=i64 z:=by simpa [eI] using hc.symm
  subst this;have h1:=qX (λq=>q[i]?) h;simp only[List.getElem?_take_of_lt hi,qw,pB,hz,qF]at h1;exact⟨_,by rw[ri,qo];exact h1,by simp[Ab]⟩
 |succ j=>simp[eI]at hc
variable {P : Program} {f : FuncId} {g el : Nat} {l : List Int}
end Go.Abs
