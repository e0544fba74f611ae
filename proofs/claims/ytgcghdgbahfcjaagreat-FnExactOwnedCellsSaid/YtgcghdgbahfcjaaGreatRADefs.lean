import Derived.Test.YtgcghdgbahfcjaaGreatGEncDToEncG
import Derived.Test.YtgcghdgbahfcjaaGreatHADefs
import Derived.Test.YtgcghdgbahfcjaaGreatHBDefs
namespace RC
def laws_markIntS_L1  : Nat → Int → Int → (List Int) → Option (Int × (List Int))
 | 0, _, _, _ => none
 | n + 1, k4, i5, l6 =>
  if (decide (i5 < (Sh.len l6))) = true then
   Option.bind (Sh.get l6 i5) fun c16 =>
   laws_markIntS_L1  n (Sh.w (k4 + 1)) (Sh.w (i5 + 1)) (Sh.put l6 i5 k4)
  else
   some (k4, l6)
def laws_markIntS (N : Nat) (s0 : (List Int)) (p1 : Int) : Option (Int × (List Int)) :=
 Option.bind (laws_markIntS_L1  N p1 0 s0) fun (k7, l8) =>
 some (k7, l8)
def laws_markCellS_L1 (N : Nat) : Nat → Int → Int → (List Cell) → Option (Int × (List Cell))
 | 0, _, _, _ => none
 | n + 1, k4, i5, l6 =>
  if (decide (i5 < (Sh.len l6))) = true then
   Option.bind (Sh.get l6 i5) fun c16 =>
   Option.bind (Sh.get (Sh.put l6 i5 (Cell.mk k4 c16.tag c16.fields)) i5) fun c19 =>
   Option.bind (Sh.get (Sh.put (Sh.put l6 i5 (Cell.mk k4 c16.tag c16.fields)) i5 (Cell.mk c19.count (Sh.w (k4 + 1)) c19.fields)) i5) fun c21 =>
   Option.bind (laws_markIntS N c21.fields (Sh.w ((Sh.w (k4 + 1)) + 1))) fun q22 =>
   laws_markCellS_L1 N n q22.1 (Sh.w (i5 + 1)) (Sh.put (Sh.put (Sh.put l6 i5 (Cell.mk k4 c16.tag c16.fields)) i5 (Cell.mk c19.count (Sh.w (k4 + 1)) c19.fields)) i5 (Cell.mk c21.count c21.tag q22.2))
  else
   some (k4, l6)
def laws_markCellS (N : Nat) (s0 : (List Cell)) (p1 : Int) : Option (Int × (List Cell)) :=
 Option.bind (laws_markCellS_L1 N N p1 0 s0) fun (k7, l8) =>
 some (k7, l8)
def laws_heldIntS_L1 (p0 : (List Int)) : Nat → Int → Int → Option ((Int) ⊕ (Int))
 | 0, _, _ => none
 | n + 1, k4, i5 =>
  if (decide (i5 < (Sh.len p0))) = true then
   Option.bind (Sh.get p0 i5) fun c15 =>
   if (!decide (c15 = k4)) = true then
    some (Sum.inl (-1))
   else
    laws_heldIntS_L1 p0 n (Sh.w (k4 + 1)) (Sh.w (i5 + 1))
  else
   some (Sum.inr k4)
def laws_heldIntS (N : Nat) (p0 : (List Int)) (p1 : Int) : Option (Int) :=
 Sh.cont (laws_heldIntS_L1 p0 N p1 0) (id) fun k6 =>
 some k6
end RC

