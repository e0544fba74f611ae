import Derived.Test.YtgcghdgbahfcjaaGreatIWB

namespace RC
open Go
def nx (i : RInstr) (t : Nat) : List Int :=
 if i.op = 22 then [i.num] else if i.op = 20 then [(t : Int) + 1, i.num] else if i.op = 21 then i.jumps else if i.op = 23 ∨ i.op = 24 then [] else [(t : Int) + 1]
def run : Nat → List RInstr → (Nat → Bool) → Nat → Bool
 | _, [], m => m
 | t, i :: r, m => run (t + 1) r (if m t then withL m (nx i t) else m)
theorem indicesOf_row {m : Nat → Bool} {n : Nat} (hn : n ≤ 1048576) {N : Nat} (hN : 2000000 ≤ N) : impl_indicesOf N (rowOf n m) = some (nats (mk m n 0)) := by
 unfold impl_indicesOf
 have := impl_indices_L1 (m := m) hn (Nat.zero_le n) (by omega : n - 0 < N) [] (by simp)
 rw [show ((0 : Nat) : Int) = 0 from rfl, show nats [] = [] from rfl] at this
 rw [this]; rfl
end RC

