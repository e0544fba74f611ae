import Derived.Test.YtgcghdgbahfcjaaGreatGEncToEncB
import Derived.Test.YtgcghdgbahfcjaaGreatHADefs
namespace RC
def impl_indicesOf_L1 (p0 : (List Bool)) : Nat → Int → (List Int) → Option ((List Int))
 | 0, _, _ => none
 | n + 1, t5, l6 =>
  if (decide (t5 < (Sh.len p0))) = true then
   Option.bind (
    Option.bind (Sh.get p0 t5) fun c17 =>
    if c17 = true then
     Option.bind (Sh.app l6 [t5] 8) fun l20 =>
     some l20
    else
     some l6
   ) fun l14 =>
   impl_indicesOf_L1 p0 n (Sh.w (t5 + 1)) l14
  else
   some l6
def impl_indicesOf (N : Nat) (p0 : (List Bool)) : Option ((List Int)) :=
 Option.bind (impl_indicesOf_L1 p0 N 0 []) fun l7 =>
 some l7
end RC

