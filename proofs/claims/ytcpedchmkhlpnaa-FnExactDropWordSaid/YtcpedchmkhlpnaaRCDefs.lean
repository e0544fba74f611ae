import Derived.Test.YtcpedchmkhlpnaaGEncCToEncD
import Derived.Test.YtcpedchmkhlpnaaCADefs
import Derived.Test.YtcpedchmkhlpnaaHADefs
import Derived.Test.YtcpedchmkhlpnaaHBDefs
import Derived.Test.YtcpedchmkhlpnaaRADefs
import Derived.Test.YtcpedchmkhlpnaaRBDefs
namespace RC

def laws_FnExactDropWord (N : Nat) (p0 : (List Cell)) (p1 : Int) : Option (Bool) :=
  Option.bind (laws_szCellS N p0 1048576) fun q4 =>
  if (decide (q4 < 0)) = true then
    some true
  else
    Option.bind (laws_toCellS N p0) fun q10 =>
    Option.bind (spec_DropWord N q10 p1) fun q11 =>
    Option.bind (laws_toCellS N p0) fun q13 =>
    Option.bind (impl_DropWord N q13 p1) fun q15 =>
    Option.bind (
      Option.bind (laws_eqCellS N q15.1 q11.1) fun q85 =>
      if (!q85) = true then
        some true
      else
        some (q15.2 != q11.2)
    ) fun t18 =>
    if t18 = true then
      some false
    else
      Option.bind (laws_toCellS N p0) fun q24 =>
      Option.bind (laws_eqCellS N q13 q24) fun q25 =>
      if (!q25) = true then
        some false
      else
        Option.bind (laws_markCellS N q13 1) fun q32 =>
        Option.bind (
          if (decide (q32.1 < 0)) = true then
            some true
          else
            Option.bind (laws_eqCellS N q15.1 q11.1) fun q83 =>
            if (!q83) = true then
              some true
            else
              some (q15.2 != q11.2)
        ) fun t36 =>
        if t36 = true then
          some false
        else
          Option.bind (laws_markCellS N q15.1 1) fun q42 =>
          Option.bind (laws_heldCellS N q42.2 1) fun q46 =>
          if (decide (q46 < 0)) = true then
            some false
          else
          if (!decide (q46 = q42.1)) = true then
            some false
          else
            Option.bind (laws_toCellS N p0) fun q58 =>
            Option.bind (impl_DropWord N q58 p1) fun q59 =>
            Option.bind (
              Option.bind (laws_eqCellS N q59.1 q11.1) fun q80 =>
              if (!q80) = true then
                some true
              else
                some (q59.2 != q11.2)
            ) fun t62 =>
            if t62 = true then
              some false
            else
              Option.bind (laws_heldCellS N q42.2 1) fun q68 =>
              if (decide (q68 < 0)) = true then
                some false
              else
              if (!decide (q68 = q42.1)) = true then
                some false
              else
                some true

end RC
