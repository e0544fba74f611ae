import Derived.Laws.CopyRow
import Derived.Laws.IdiomCopy
import Derived.Test.YtccficmcdkcpnaaGreatSortC
set_option linter.all false
namespace RC
end RC
namespace Go.Abs
open Go RC
section
variable {P : Program} {k : Nat} {ops : Array Oper} {Q : Exit -> St -> Prop} {ds : List (Option Tmp)} {r : List Oper} {n : Nat} {e : Nat -> AV} {st st' : List Row} {ty : TypeId} {p : String} {ed : Array Edge} {d : Option Tmp} {x y : Operand} {size bytes id g m : Nat} {el vM T T' : TypeId} {zz : List AV} {l l2 : List Int}
end
end Go.Abs
