import Derived.Test.YtccficmcdkcpnaaGreatCopyC
set_option linter.all false
namespace Go.Abs
open Go RC
section
variable {P : Program} {k : Nat} {ops : Array Oper} {Q : Exit -> St -> Prop} {ds : List (Option Tmp)} {r : List Oper} {n : Nat} {e : Nat -> AV} {st : List Row} {o : Oper}
theorem aZ {F:Nat->Prop}{w':World}{os':List Own}{g el b cap:Nat}{more:Nat->Prop}{l':List Int}{sh:Array Value}(hF:¬ F b)(sD:w'.heap[b]?=some (.cells sh el (0,0)))(ru:sh.size=cap)(hle:l'.length<=cap)(tR:cap<=maxLen)
  (hl:sh.toList.take l'.length=l'.map (Value.int .i64)) (hmo :∀c,more c->¬ F c/\c<w'.heap.size/\b≠c):L8 F w' os' ⟨⟨g,el,1,l'.map eI⟩,some b,cap,more⟩:=by
 have yP:∀x∈l'.map eI,∀c∈x,c.leaf=true:=by
  intro x hx c hc;obtain⟨z,_,rfl⟩:=mu.1 hx;simp only[eI,nQ]at hc;subst hc;rfl
 refine⟨Nat.one_pos,λx hx=>⟨?_,λc hc=>Ci (yP x hx c hc)⟩,λe=>(by cases e),λc hc=>?_,λc hc=>⟨(hmo c hc).1,(hmo c hc).2.1,λe=>(hmo c hc).2.2 (by simpa using e)⟩,Fq yP⟩
 ·obtain⟨z,_,rfl⟩:=mu.1 hx;simp[eI]
 ·simp only[mU]at hc;subst hc;exact⟨hF,sh,sD,by simpa using ru,by simpa using hle,tR,ZL hl⟩
section
variable {ty : TypeId} {p : String} {ed : Array Edge} {t : Tmp} {x y : Operand} {bytes id g q gq : Nat} {el elq T : TypeId} {zz : List AV} {pre l l' : List Int} {v : Int}
variable {α : Type} {enc : α -> List AV} {pr m : List α} {u : α} {j : Int} {kk : IntKind} {size : Nat} {s : St}
end
end
end Go.Abs
