import Derived.Test.YteoiihebkhmgoaaIVA
import Derived.Test.YteoiihebkhmgoaaHMG

namespace RC
open Go
def at0 (l : List Int) (r : Nat) : Int := (l[r]?).getD 0
def hsr (f : RFrame) (r : Nat) (G : Nat → Int) : Nat → Int := fun j => if (j : Int) + 1000 = at0 f.held r then G j + 1 else G j
end RC

