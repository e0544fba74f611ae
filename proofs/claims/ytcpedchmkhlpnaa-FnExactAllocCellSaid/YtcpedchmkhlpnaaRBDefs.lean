import Derived.Test.YtcpedchmkhlpnaaGEncCToEncD
import Derived.Test.YtcpedchmkhlpnaaCADefs
import Derived.Test.YtcpedchmkhlpnaaHADefs
import Derived.Test.YtcpedchmkhlpnaaHBDefs
import Derived.Test.YtcpedchmkhlpnaaRADefs
namespace RC

def laws_heldCellS_L1 (N : Nat) (p0 : (List Cell)) : Nat → Int → Int → Option ((Int) ⊕ (Int))
  | 0, _, _ => none
  | n + 1, k4, i5 =>
    if (decide (i5 < (Sh.len p0))) = true then
      Option.bind (Sh.get p0 i5) fun c15 =>
      if (!decide (c15.count = k4)) = true then
        some (Sum.inl (-1))
      else
      if (!decide (c15.tag = (Sh.w (k4 + 1)))) = true then
        some (Sum.inl (-1))
      else
        Option.bind (laws_heldIntS N c15.fields (Sh.w ((Sh.w (k4 + 1)) + 1))) fun q29 =>
        if (decide (q29 < 0)) = true then
          some (Sum.inl (-1))
        else
          laws_heldCellS_L1 N p0 n q29 (Sh.w (i5 + 1))
    else
      some (Sum.inr k4)

def laws_heldCellS (N : Nat) (p0 : (List Cell)) (p1 : Int) : Option (Int) :=
  Sh.cont (laws_heldCellS_L1 N p0 N p1 0) (id) fun k6 =>
  some k6

def laws_FnExactDupWord (N : Nat) (p0 : (List Cell)) (p1 : Int) : Option (Bool) :=
  Option.bind (laws_szCellS N p0 1048576) fun q4 =>
  if (decide (q4 < 0)) = true then
    some true
  else
    Option.bind (laws_toCellS N p0) fun q10 =>
    Option.bind (spec_DupWord N q10 p1) fun q11 =>
    Option.bind (laws_toCellS N p0) fun q13 =>
    Option.bind (impl_DupWord N q13 p1) fun q15 =>
    Option.bind (
      Option.bind (laws_eqCellS N q15.1 q11.1) fun q85 =>
      if (!q85) = true then
        some true
      else
        some (q15.2 != q11.2)
    ) fun t18 =>
    if t18 = true then
      some false
    else
      Option.bind (laws_toCellS N p0) fun q24 =>
      Option.bind (laws_eqCellS N q13 q24) fun q25 =>
      if (!q25) = true then
        some false
      else
        Option.bind (laws_markCellS N q13 1) fun q32 =>
        Option.bind (
          if (decide (q32.1 < 0)) = true then
            some true
          else
            Option.bind (laws_eqCellS N q15.1 q11.1) fun q83 =>
            if (!q83) = true then
              some true
            else
              some (q15.2 != q11.2)
        ) fun t36 =>
        if t36 = true then
          some false
        else
          Option.bind (laws_markCellS N q15.1 1) fun q42 =>
          Option.bind (laws_heldCellS N q42.2 1) fun q46 =>
          if (decide (q46 < 0)) = true then
            some false
          else
          if (!decide (q46 = q42.1)) = true then
            some false
          else
            Option.bind (laws_toCellS N p0) fun q58 =>
            Option.bind (impl_DupWord N q58 p1) fun q59 =>
            Option.bind (
              Option.bind (laws_eqCellS N q59.1 q11.1) fun q80 =>
              if (!q80) = true then
                some true
              else
                some (q59.2 != q11.2)
            ) fun t62 =>
            if t62 = true then
              some false
            else
              Option.bind (laws_heldCellS N q42.2 1) fun q68 =>
              if (decide (q68 < 0)) = true then
                some false
              else
              if (!decide (q68 = q42.1)) = true then
                some false
              else
                some true

end RC
