import Derived.Test.YteoiihebkhmgoaaIVD

namespace RC
open Go
def rows2 (n : Nat) (p : (Nat → Int) × (Nat → Int)) : List Int × List Int := (rowOf n p.1, rowOf n p.2)
end RC

