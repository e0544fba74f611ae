import Derived.Test.YtcegihniiokijaaGEncToEncB
import Derived.Test.YtcegihniiokijaaAbsW

namespace RC
open Go Go.Abs
structure RCon where
 fields : List Int
structure RDecl where
 from_ : Int
 to : Int
 cons : List RCon
structure RInstr where
 op : Int
 dst : Int
 num : Int
 into : Int
 args : List Int
 jumps : List Int
structure RProc where
 params : List Int
 lent : List Int
 result : Int
 regs : Int
 code : List RInstr
structure RImage where
 decls : List RDecl
 procs : List RProc
structure RSignature where
 params : List Int
 lent : List Int
 result : Int
structure RSignatures where
 decls : List RDecl
 funcs : List RSignature
inductive RExpr where
 | mk (op num : Int) (kids : List RExpr)
def RExpr.op : RExpr → Int | .mk o _ _ => o
def RExpr.num : RExpr → Int | .mk _ n _ => n
def RExpr.kids : RExpr → List RExpr | .mk _ _ k => k
structure RFunc where
 params : List Int
 result : Int
 body : RExpr
structure RProgram where
 decls : List RDecl
 funcs : List RFunc
def eRCon (c : RCon) : List AV := [.sl (c.fields.map eI)]
def eRDecl (d : RDecl) : List AV := [.int .i64 d.from_, .int .i64 d.to, .sl (d.cons.map eRCon)]
def eRSignature (p : RSignature) : List AV := [.sl (p.params.map eI), .sl (p.lent.map eI), .int .i64 p.result]
def eRSignatures (x : RSignatures) : List AV := [.sl (x.decls.map eRDecl), .sl (x.funcs.map eRSignature)]
noncomputable def eRExpr (s : RExpr) : List AV :=
 RExpr.rec (motive_1 := fun _ => List AV) (motive_2 := fun _ => List (List AV)) (fun o n _ ks => [.int .i64 o, .int .i64 n, .sl ks]) [] (fun _ _ b bs => b :: bs) s
noncomputable def eRFunc (f : RFunc) : List AV := [.sl (f.params.map eI), .int .i64 f.result, .int .i64 f.body.op, .int .i64 f.body.num, .sl (f.body.kids.map eRExpr)]
structure RConIn (c : RCon) : Prop where
 fields : ListIn I64 c.fields
structure RDeclIn (d : RDecl) : Prop where
 from_ : I64 d.from_
 to : I64 d.to
 cons : ListIn RConIn d.cons
end RC



namespace Go.Abs
open Go
variable {P : Program} {F : Nat → Prop} {os : List Own} {s : St} {a : Act} {w : World} {k : Nat}
end Go.Abs



namespace Go.Abs
open Go
variable {P : Program} {F : Nat → Prop} {os : List Own} {s : St} {a : Act} {w : World} {k : Nat}
variable {α β : Type} {l : List α} {enc : α → List AV}
section
variable {ops : Array Oper} {Q : Exit → St → Prop} {ds : List (Option Tmp)} {r : List Oper} {n : Nat} {e : Nat → AV} {st st' : List Row} {ty : TypeId} {ps : String} {ed : Array Edge} {t : Tmp} {v : AV} {gd : Option (Nat × Bool)} {T : TypeId} {x y : Operand} {ag : Bool} {sz id g size : Nat} {el : TypeId} {cs : List AV} {c : α} {i : Int}
end
end Go.Abs



namespace Go.Abs
open Go
variable {P : Program} {F : Nat → Prop} {os : List Own} {s : St} {a : Act} {w : World} {k : Nat}
section
variable {α : Type} {l : List α} {enc : α → List AV}
variable {ops : Array Oper} {Q : Exit → St → Prop} {ds : List (Option Tmp)} {r : List Oper} {n : Nat} {e : Nat → AV} {st st' : List Row} {ty : TypeId} {ps : String} {ed : Array Edge} {t : Tmp} {T : TypeId} {x y : Operand} {m bytes size : Nat} {el : TypeId} {zz : List AV} {u : α} {j : Int} {kk kk' : IntKind}
end
end Go.Abs



namespace Go.Abs
open Go
variable {P : Program} {F : Nat → Prop} {os : List Own} {s : St} {a : Act} {w : World} {k : Nat}
variable {α β : Type} {l : List α} {enc : α → List AV}
end Go.Abs
namespace Go.Abs
open Go
section
variable {P : Program} {k : Nat} {α : Type} {l l' : List α} {enc : α → List AV} {c : α}
variable {ops : Array Oper} {Q : Exit → St → Prop} {ds : List (Option Tmp)} {r : List Oper} {n : Nat} {e : Nat → AV} {st st' : List Row} {ty : TypeId} {ps : String} {ed : Array Edge} {t : Tmp} {gd : Option (Nat × Bool)} {T : TypeId} {x y : Operand} {bytes size id g m q gq size' : Nat} {el el' : TypeId} {zz cs : List AV}
end
end Go.Abs

