import Derived.Test.YtgiajkaabnbieaaGreatCopyC
set_option linter.all false
namespace Go.Abs
open Go RC
section
variable {P : Program} {k : Nat} {ops : Array Oper} {Q : Exit -> St -> Prop} {ds : List (Option Tmp)} {r : List Oper} {n : Nat} {e : Nat -> AV} {st : List Row} {o : Oper}
theorem bp {F:Nat->Prop}{w':World}{os':List Own}{g el b cap:Nat}{more:Nat->Prop}{l':List Int}{sB:Array Value}(hF:¬ F b)(rX:w'.heap[b]?=some (.cells sB el (0,0)))(rP:sB.size=cap)(hle:l'.length<=cap)(sb:cap<=maxLen)
  (hl:sB.toList.take l'.length=l'.map (Value.int .i64)) (hmo :∀c,more c->¬ F c/\c<w'.heap.size/\b≠c):Kf F w' os' ⟨⟨g,el,1,l'.map eI⟩,some b,cap,more⟩:=by
 have ye:∀x∈l'.map eI,∀c∈x,c.leaf=true:=by
  intro x hx c hc;obtain⟨z,_,rfl⟩:=mU.1 hx;simp only[eI,mv]at hc;subst hc;rfl
 refine⟨Nat.one_pos,λx hx=>⟨?_,λc hc=>Dr (ye x hx c hc)⟩,λe=>(by cases e),λc hc=>?_,λc hc=>⟨(hmo c hc).1,(hmo c hc).2.1,λe=>(hmo c hc).2.2 (by simpa using e)⟩,Fv ye⟩
 ·obtain⟨z,_,rfl⟩:=mU.1 hx;simp[eI]
 ·simp only[mE]at hc;subst hc;exact⟨hF,sB,rX,by simpa using rP,by simpa using hle,sb,aC hl⟩
section
variable {ty : TypeId} {p : String} {ed : Array Edge} {t : Tmp} {x y : Operand} {bytes id g q gq : Nat} {el elq T : TypeId} {zz : List AV} {pre l l' : List Int} {v : Int}
variable {α : Type} {enc : α -> List AV} {pr m : List α} {u : α} {j : Int} {kk : IntKind} {size : Nat} {s : St}
end
end
end Go.Abs
