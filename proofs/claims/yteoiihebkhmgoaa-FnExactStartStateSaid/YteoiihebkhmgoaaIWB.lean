import Derived.Test.YteoiihebkhmgoaaGHADefsToSTDefs
import Derived.Test.YteoiihebkhmgoaaGPlainBToRMA
import Derived.Test.YteoiihebkhmgoaaIWA

namespace RC
open Go
def withL (m : Nat → Bool) (l : List Int) : Nat → Bool := fun k => m k || decide ((k : Int) ∈ l)
end RC

