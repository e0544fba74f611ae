import Derived.Test.YtccficmcdkcpnaaGreatGAbsZPToSSDefs
import Derived.Sort.OwnSortedInts
set_option linter.all false
namespace Go.Abs
open Go Go.Sort RC
variable {P : Program} {f : FuncId} {g el : Nat} {l : List Int}
end Go.Abs
