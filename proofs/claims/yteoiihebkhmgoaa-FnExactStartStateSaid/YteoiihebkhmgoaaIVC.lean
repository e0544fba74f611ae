import Derived.Test.YteoiihebkhmgoaaIVB

namespace RC
open Go
def hb (s : RState) (k : Nat) : Nat := ((s.frames.take k).map fz).sum
end RC

