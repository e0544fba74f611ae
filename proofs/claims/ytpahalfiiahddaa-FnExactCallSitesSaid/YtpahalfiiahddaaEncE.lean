import Derived.Test.YtpahalfiiahddaaGEncCToAbsZB
import Derived.Test.YtpahalfiiahddaaAbsZE

namespace RC
open Go Go.Abs
inductive RExprIn : RExpr → Prop where
 | mk {e : RExpr} : I64 e.op → I64 e.num → e.kids.length ≤ 9223372036854775807 → (∀ k ∈ e.kids, RExprIn k) → RExprIn e
theorem RExprIn.num {e : RExpr} (h : RExprIn e) : I64 e.num := by cases h; assumption
theorem RExprIn.klen {e : RExpr} (h : RExprIn e) : e.kids.length ≤ 9223372036854775807 := by cases h; assumption
theorem RExprIn.kids {e : RExpr} (h : RExprIn e) : ∀ k ∈ e.kids, RExprIn k := by cases h; assumption
theorem eRFunc_app (a0 : List Int) (a1 : Int) (a2 : RExpr) : eRFunc ⟨a0, a1, a2⟩ = eS eI a0 ++ (eI a1 ++ eRExpr a2) := by rw [eRExpr_eq]; rfl
structure RFuncIn (f : RFunc) : Prop where
 params : ListIn I64 f.params
 result : I64 f.result
 body : RExprIn f.body
structure RProgramIn (p : RProgram) : Prop where
 decls : ListIn RDeclIn p.decls
 funcs : ListIn RFuncIn p.funcs
end RC

