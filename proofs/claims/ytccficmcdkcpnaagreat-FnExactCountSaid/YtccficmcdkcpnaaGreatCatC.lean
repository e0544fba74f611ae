import Derived.Test.YtccficmcdkcpnaaGreatGAbsZKToAbsZO
import Derived.Test.YtccficmcdkcpnaaGreatSufC
set_option linter.all false
namespace Go.Abs
open Go
section
variable {P : Program} {k : Nat} {ops : Array Oper} {Q : Exit -> St -> Prop} {ds : List (Option Tmp)} {r : List Oper} {n : Nat} {e : Nat -> AV} {st st' : List Row} {α : Type} {enc : α -> List AV} {la lb : List α} {gd : Option (Nat × Bool)} {t : Tmp} {x : Operand} {ts : Array TypeId} {ty : TypeId} {ps : String} {ed : Array Edge} {f : FuncId} {ia ib q gA gB gQ size : Nat} {el elQ : TypeId}
end
end Go.Abs
