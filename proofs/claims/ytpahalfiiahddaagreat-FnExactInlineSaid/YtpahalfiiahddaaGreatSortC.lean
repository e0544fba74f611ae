import Derived.Test.YtpahalfiiahddaaGreatGAbsZPToSSDefs
import Derived.Sort.OwnSortedInts

namespace Go.Abs
open Go Go.Sort RC
theorem SK {F:Nat→Prop} {w:World} {os:List Own} {cur:Array Value} {l:List Int} (h :∀(i:Nat) x,(l.map eI)[i]?=some x→∀(j:Nat) c,x[j]?=some c→∃u,cur[i * 1+j]?=some u∧Ae F w os c u):cur.toList.take l.length=l.map (Value.int .i64):=by
 apply List.ext_getElem?
 intro j
 by_cases hj:j < l.length
 ·rw[List.getElem?_take_of_lt hj,Array.getElem?_toList,List.getElem?_map,List.getElem?_eq_getElem hj]
  obtain⟨u,h1,h2⟩:=h j (eI l[j]) (by rw[List.getElem?_map,List.getElem?_eq_getElem hj];rfl) 0 _ rfl
  rw[Nat.mul_one,Nat.add_zero] at h1
  simp only[Ae] at h2
  rw[h1,h2];rfl
 ·rw[List.getElem?_take_eq_none (by omega),List.getElem?_eq_none (by simp;omega)]
theorem X0 {F:Nat→Prop} {w:World} {os:List Own} {cur:Array Value} {l:List Int} (h:cur.toList.take l.length=l.map (Value.int .i64)) :∀(i:Nat) x,(l.map eI)[i]?=some x→∀(j:Nat) c,x[j]?=some c→∃u,cur[i * 1+j]?=some u∧Ae F w os c u:=by
 intro i x hx j c hc
 rw[List.getElem?_map,Option.map_eq_some_iff] at hx
 obtain⟨z,hz,rfl⟩:=hx
 have hi:=(List.getElem?_eq_some_iff.1 hz).1
 cases j with
 | zero=>
  have:c=i64 z:=by simpa [eI] using hc.symm
  subst this
  have h1:=congrArg (fun q=>q[i]?) h
  simp only[List.getElem?_take_of_lt hi,Array.getElem?_toList,List.getElem?_map,hz,Option.map_some] at h1
  exact⟨_,by rw[Nat.mul_one,Nat.add_zero];exact h1,by simp[Ae]⟩
 | succ j=>simp[eI] at hc
variable {P : Program} {f : FuncId} {g el : Nat} {l : List Int}
end Go.Abs

