import Derived.Test.YteoiihebkhmgoaaIVC

namespace RC
open Go
def kept (h : List Cell) (w : Int) : Bool := decide (1000 ≤ w) && (match h[(w - 1000).toNat]? with | some c => decide (c.count < 0) | none => false)
end RC

