import Derived.Test.YtcpedchmkhlpnaaGEncCToEncD
import Derived.Test.YtcpedchmkhlpnaaHADefs
import Derived.Test.YtcpedchmkhlpnaaHBDefs
namespace RC

def laws_markIntS_L1  : Nat → Int → Int → (List Int) → Option (Int × (List Int))
  | 0, _, _, _ => none
  | n + 1, k4, i5, l6 =>
    if (decide (i5 < (Sh.len l6))) = true then
      Option.bind (Sh.get l6 i5) fun c16 =>
      laws_markIntS_L1  n (Sh.w (k4 + 1)) (Sh.w (i5 + 1)) (Sh.put l6 i5 k4)
    else
      some (k4, l6)

def laws_markIntS (N : Nat) (s0 : (List Int)) (p1 : Int) : Option (Int × (List Int)) :=
  Option.bind (laws_markIntS_L1  N p1 0 s0) fun (k7, l8) =>
  some (k7, l8)

def laws_markCellS_L1 (N : Nat) : Nat → Int → Int → (List Cell) → Option (Int × (List Cell))
  | 0, _, _, _ => none
  | n + 1, k4, i5, l6 =>
    if (decide (i5 < (Sh.len l6))) = true then
      Option.bind (Sh.get l6 i5) fun c16 =>
      Option.bind (Sh.get (Sh.put l6 i5 (Cell.mk k4 c16.tag c16.fields)) i5) fun c19 =>
      Option.bind (Sh.get (Sh.put (Sh.put l6 i5 (Cell.mk k4 c16.tag c16.fields)) i5 (Cell.mk c19.count (Sh.w (k4 + 1)) c19.fields)) i5) fun c21 =>
      Option.bind (laws_markIntS N c21.fields (Sh.w ((Sh.w (k4 + 1)) + 1))) fun q22 =>
      laws_markCellS_L1 N n q22.1 (Sh.w (i5 + 1)) (Sh.put (Sh.put (Sh.put l6 i5 (Cell.mk k4 c16.tag c16.fields)) i5 (Cell.mk c19.count (Sh.w (k4 + 1)) c19.fields)) i5 (Cell.mk c21.count c21.tag q22.2))
    else
      some (k4, l6)

def laws_markCellS (N : Nat) (s0 : (List Cell)) (p1 : Int) : Option (Int × (List Cell)) :=
  Option.bind (laws_markCellS_L1 N N p1 0 s0) fun (k7, l8) =>
  some (k7, l8)

def laws_heldIntS_L1 (p0 : (List Int)) : Nat → Int → Int → Option ((Int) ⊕ (Int))
  | 0, _, _ => none
  | n + 1, k4, i5 =>
    if (decide (i5 < (Sh.len p0))) = true then
      Option.bind (Sh.get p0 i5) fun c15 =>
      if (!decide (c15 = k4)) = true then
        some (Sum.inl (-1))
      else
        laws_heldIntS_L1 p0 n (Sh.w (k4 + 1)) (Sh.w (i5 + 1))
    else
      some (Sum.inr k4)

def laws_heldIntS (N : Nat) (p0 : (List Int)) (p1 : Int) : Option (Int) :=
  Sh.cont (laws_heldIntS_L1 p0 N p1 0) (id) fun k6 =>
  some k6

def laws_FnExactReachOf (N : Nat) (p0 : (List Cell)) (p1 : (List Int)) : Option (Bool) :=
  if (decide (1048576 < (Sh.len p1))) = true then
    some true
  else
    Option.bind (laws_szCellS N p0 1048576) fun q8 =>
    if (decide (q8 < 0)) = true then
      some true
    else
      Option.bind (laws_toCellS N p0) fun q14 =>
      Option.bind (laws_toIntS N p1) fun q15 =>
      Option.bind (spec_ReachOf N q14 q15) fun q16 =>
      Option.bind (laws_toCellS N p0) fun q18 =>
      Option.bind (laws_toIntS N p1) fun q20 =>
      Option.bind (impl_ReachOf N q18 q20) fun q22 =>
      Option.bind (laws_eqIntS N q22 q16) fun q25 =>
      if (!q25) = true then
        some false
      else
        Option.bind (laws_toCellS N p0) fun q32 =>
        Option.bind (laws_eqCellS N q18 q32) fun q33 =>
        if (!q33) = true then
          some false
        else
          Option.bind (laws_toIntS N p1) fun q40 =>
          Option.bind (laws_eqIntS N q20 q40) fun q41 =>
          if (!q41) = true then
            some false
          else
            Option.bind (laws_markCellS N q18 1) fun q48 =>
            Option.bind (laws_markIntS N q20 q48.1) fun q51 =>
            Option.bind (
              if (decide (q51.1 < 0)) = true then
                some true
              else
                Option.bind (laws_eqIntS N q22 q16) fun q102 =>
                some (!q102)
            ) fun t55 =>
            if t55 = true then
              some false
            else
              Option.bind (laws_markIntS N q22 1) fun q61 =>
              Option.bind (laws_heldIntS N q61.2 1) fun q65 =>
              if (decide (q65 < 0)) = true then
                some false
              else
              if (!decide (q65 = q61.1)) = true then
                some false
              else
                Option.bind (laws_toCellS N p0) fun q77 =>
                Option.bind (laws_toIntS N p1) fun q78 =>
                Option.bind (impl_ReachOf N q77 q78) fun q79 =>
                Option.bind (laws_eqIntS N q79 q16) fun q82 =>
                if (!q82) = true then
                  some false
                else
                  Option.bind (laws_heldIntS N q61.2 1) fun q89 =>
                  if (decide (q89 < 0)) = true then
                    some false
                  else
                  if (!decide (q89 = q61.1)) = true then
                    some false
                  else
                    some true

end RC
