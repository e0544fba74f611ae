import Derived.Test.YteoiihebkhmgoaaIWB

namespace RC
open Go
def nx (i : RInstr) (t : Nat) : List Int :=
 if i.op = 22 then [i.num] else if i.op = 20 then [(t : Int) + 1, i.num] else if i.op = 21 then i.jumps else if i.op = 23 ∨ i.op = 24 then [] else [(t : Int) + 1]
def run : Nat → List RInstr → (Nat → Bool) → Nat → Bool
 | _, [], m => m
 | t, i :: r, m => run (t + 1) r (if m t then withL m (nx i t) else m)
end RC

