import Derived.Test.YtccficmcdkcpnaaGreatCopyC
set_option linter.all false
namespace Go.Abs
open Go RC
section
variable {P : Program} {k : Nat} {ops : Array Oper} {Q : Exit -> St -> Prop} {ds : List (Option Tmp)} {r : List Oper} {n : Nat} {e : Nat -> AV} {st : List Row} {o : Oper}
theorem jZ {F:Nat->Prop}{w':World}{os':List Own}{g el b cap:Nat}{more:Nat->Prop}{l':List Int}{cur':Array Value}(hF:¬ F b)(hcur':w'.heap[b]?=some (.cells cur' el (0,0)))(hsz:cur'.size=cap)(hle:l'.length<=cap)(hmax:cap<=maxLen)
  (hl:cur'.toList.take l'.length=l'.map (Value.int .i64)) (hmo :∀c,more c->¬ F c/\c<w'.heap.size/\b≠c):MZ F w' os' ⟨⟨g,el,1,l'.map eI⟩,some b,cap,more⟩:=by
 have hflat:∀x∈l'.map eI,∀c∈x,c.leaf=true:=by
  intro x hx c hc;obtain⟨z,_,rfl⟩:=uw.1 hx;simp only[eI,vQ]at hc;subst hc;rfl
 refine⟨Nat.one_pos,λx hx=>⟨?_,λc hc=>DL (hflat x hx c hc)⟩,λe=>(by cases e),λc hc=>?_,λc hc=>⟨(hmo c hc).1,(hmo c hc).2.1,λe=>(hmo c hc).2.2 (by simpa using e)⟩,Fz hflat⟩
 ·obtain⟨z,_,rfl⟩:=uw.1 hx;simp[eI]
 ·simp only[uO]at hc;subst hc;exact⟨hF,cur',hcur',by simpa using hsz,by simpa using hle,hmax,Xt hl⟩
section
variable {ty : TypeId} {p : String} {ed : Array Edge} {t : Tmp} {x y : Operand} {bytes id g q gq : Nat} {el elq T : TypeId} {zz : List AV} {pre l l' : List Int} {v : Int}
variable {α : Type} {enc : α -> List AV} {pr m : List α} {u : α} {j : Int} {kk : IntKind} {size : Nat} {s : St}
end
end
end Go.Abs
