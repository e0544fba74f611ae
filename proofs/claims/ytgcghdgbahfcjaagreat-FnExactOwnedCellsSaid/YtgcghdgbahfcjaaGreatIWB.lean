import Derived.Test.YtgcghdgbahfcjaaGreatRGDefs
import Derived.Test.YtgcghdgbahfcjaaGreatGPlainBToRMA
import Derived.Test.YtgcghdgbahfcjaaGreatIWA

namespace RC
open Go
def withL (m : Nat → Bool) (l : List Int) : Nat → Bool := fun k => m k || decide ((k : Int) ∈ l)
end RC

