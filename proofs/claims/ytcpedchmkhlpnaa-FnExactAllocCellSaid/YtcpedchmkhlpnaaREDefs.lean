import Derived.Test.YtcpedchmkhlpnaaGEncCToEncD
import Derived.Test.YtcpedchmkhlpnaaCADefs
import Derived.Test.YtcpedchmkhlpnaaHADefs
import Derived.Test.YtcpedchmkhlpnaaHBDefs
import Derived.Test.YtcpedchmkhlpnaaRADefs
import Derived.Test.YtcpedchmkhlpnaaRBDefs
namespace RC

def laws_FnExactAllocCell (N : Nat) (p0 : (List Cell)) (p1 : Int) (p2 : (List Int)) : Option (Bool) :=
  if (decide (1048576 < (Sh.len p2))) = true then
    some true
  else
    Option.bind (laws_szCellS N p0 1048576) fun q8 =>
    if (decide (q8 < 0)) = true then
      some true
    else
      Option.bind (laws_toCellS N p0) fun q14 =>
      Option.bind (laws_toIntS N p2) fun q15 =>
      Option.bind (spec_AllocCell N q14 p1 q15) fun q16 =>
      Option.bind (laws_toCellS N p0) fun q18 =>
      Option.bind (laws_toIntS N p2) fun q20 =>
      Option.bind (impl_AllocCell N q18 p1 q20) fun q22 =>
      Option.bind (
        Option.bind (laws_eqCellS N q22.1 q16.1) fun q104 =>
        if (!q104) = true then
          some true
        else
          some (!decide (q22.2 = q16.2))
      ) fun t25 =>
      if t25 = true then
        some false
      else
        Option.bind (laws_toCellS N p0) fun q31 =>
        Option.bind (laws_eqCellS N q18 q31) fun q32 =>
        if (!q32) = true then
          some false
        else
          Option.bind (laws_toIntS N p2) fun q39 =>
          Option.bind (laws_eqIntS N q20 q39) fun q40 =>
          if (!q40) = true then
            some false
          else
            Option.bind (laws_markCellS N q18 1) fun q47 =>
            Option.bind (laws_markIntS N q20 q47.1) fun q50 =>
            Option.bind (
              if (decide (q50.1 < 0)) = true then
                some true
              else
                Option.bind (laws_eqCellS N q22.1 q16.1) fun q102 =>
                if (!q102) = true then
                  some true
                else
                  some (!decide (q22.2 = q16.2))
            ) fun t54 =>
            if t54 = true then
              some false
            else
              Option.bind (laws_markCellS N q22.1 1) fun q60 =>
              Option.bind (laws_heldCellS N q60.2 1) fun q64 =>
              if (decide (q64 < 0)) = true then
                some false
              else
              if (!decide (q64 = q60.1)) = true then
                some false
              else
                Option.bind (laws_toCellS N p0) fun q76 =>
                Option.bind (laws_toIntS N p2) fun q77 =>
                Option.bind (impl_AllocCell N q76 p1 q77) fun q78 =>
                Option.bind (
                  Option.bind (laws_eqCellS N q78.1 q16.1) fun q99 =>
                  if (!q99) = true then
                    some true
                  else
                    some (!decide (q78.2 = q16.2))
                ) fun t81 =>
                if t81 = true then
                  some false
                else
                  Option.bind (laws_heldCellS N q60.2 1) fun q87 =>
                  if (decide (q87 < 0)) = true then
                    some false
                  else
                  if (!decide (q87 = q60.1)) = true then
                    some false
                  else
                    some true

end RC
