import Derived.Test.YtfkncfjpobjbjaaAbsU
set_option linter.all false
namespace Go.Abs
open Go
section
variable {P : Program} {k : Nat} {ops : Array Oper} {Q : Exit -> St -> Prop} {N f i : Nat} {T7 : Array Bool} {s s' : St} {o : Oper}
end
section
variable {P : Program} {n : Nat} {e : Nat -> AV} {st : List Row} {t : Tmp} {ty : TypeId} {ps : String} {ed : Array Edge} {x : Operand} {v : AV}
end
theorem Fs {k n:Nat}{e:Nat->AV}{st st':List Row}(h:st=st'):Wk k ⟨n,e,st⟩ ⟨n,e,st'⟩:=h▸Wk.refl _ _
section
variable {P : Program} {k : Nat}
variable {ops : Array Oper} {Q : Exit -> St -> Prop} {ds : List (Option Tmp)} {r : List Oper} {n : Nat} {e : Nat -> AV} {st st' : List Row} {ty : TypeId} {ps : String} {ed : Array Edge} {d : Option Tmp} {v v' : AV} {gd : Option (Nat × Bool)}
variable {f : FuncId} {VG : Array Operand} {ts : Array TypeId} {args Uu : List AV} {rowsP rows0 rows1 rows1' rows2 rows2' : List Row}
end
end Go.Abs
