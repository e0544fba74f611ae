import Derived.Test.YtccficmcdkcpnaaGreatProg
import Derived.Test.YtccficmcdkcpnaaGreatGAbsZQToAbsZS
import Derived.Test.YtccficmcdkcpnaaGreatGHADefsToCNDefs
import Derived.Test.YtccficmcdkcpnaaGreatCatC
set_option linter.all false
namespace RC
open Go
end RC
namespace Go.Proofs.YtccficmcdkcpnaaGreat.Cg
open Go Go.Abs RC
attribute [local irreducible] Go.Abs.DX
set_option maxRecDepth 100000
set_option maxHeartbeats 4000000
end Go.Proofs.YtccficmcdkcpnaaGreat.Cg
