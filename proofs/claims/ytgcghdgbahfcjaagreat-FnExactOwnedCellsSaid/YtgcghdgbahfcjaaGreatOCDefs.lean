import Derived.Test.YtgcghdgbahfcjaaGreatGEncDToEncG
import Derived.Test.YtgcghdgbahfcjaaGreatHADefs
import Derived.Test.YtgcghdgbahfcjaaGreatIADefs
import Derived.Test.YtgcghdgbahfcjaaGreatVSDefs
import Derived.Test.YtgcghdgbahfcjaaGreatHBDefs
import Derived.Test.YtgcghdgbahfcjaaGreatRADefs
import Derived.Test.YtgcghdgbahfcjaaGreatRGDefs
namespace RC
def spec_OwnedCells_L1 (q10 : (List Int)) : Nat → Int → (List Int) → Option ((List Int))
 | 0, _, _ => none
 | n + 1, i14, l15 =>
  if (decide (i14 < (Sh.len q10))) = true then
   Option.bind (
    Option.bind (Sh.get q10 i14) fun c26 =>
    if (decide (0 < c26)) = true then
     Option.bind (Sh.app l15 [i14] 8) fun l28 =>
     some l28
    else
     some l15
   ) fun l23 =>
   spec_OwnedCells_L1 q10 n (Sh.w (i14 + 1)) l23
  else
   some l15
def spec_OwnedCells (N : Nat) (p0 : RImage) (p1 : RState) : Option ((List Int)) :=
 Option.bind (spec_validState N p0 p1) fun q4 =>
 if (!q4) = true then
  some []
 else
  Option.bind (spec_ownersOf N p1) fun q10 =>
  Option.bind (spec_OwnedCells_L1 q10 N 0 []) fun l16 =>
  some l16
def impl_OwnedCells_L2 (c24 : RFrame) : Nat → Int → (List Bool) → Option ((List Bool))
 | 0, _, _ => none
 | n + 1, t26, l27 =>
  if (decide (t26 < (Sh.len c24.own))) = true then
   Option.bind (
    Option.bind (Sh.get c24.own t26) fun c37 =>
    if (decide (0 < c37)) = true then
     Option.bind (Sh.get c24.regs t26) fun c40 =>
     Option.bind (Sh.get l27 (Sh.w (c40 - 1000))) fun c41 =>
     some (Sh.put l27 (Sh.w (c40 - 1000)) true)
    else
     some l27
   ) fun l34 =>
   impl_OwnedCells_L2 c24 n (Sh.w (t26 + 1)) l34
  else
   some l27
def impl_OwnedCells_L1 (N : Nat) (p1 : RState) : Nat → Int → (List Bool) → Option ((List Bool))
 | 0, _, _ => none
 | n + 1, t13, l14 =>
  if (decide (t13 < (Sh.len p1.frames))) = true then
   Option.bind (Sh.get p1.frames t13) fun c24 =>
   Option.bind (impl_OwnedCells_L2 c24 N 0 l14) fun l28 =>
   impl_OwnedCells_L1 N p1 n (Sh.w (t13 + 1)) l28
  else
   some l14
def impl_OwnedCells (N : Nat) (p0 : RImage) (p1 : RState) : Option ((List Int)) :=
 Option.bind (impl_ValidState N p0 p1) fun q4 =>
 if (!q4) = true then
  some []
 else
  Option.bind (Sh.mk false (Sh.len p1.heap) 1) fun l10 =>
  Option.bind (impl_OwnedCells_L1 N p1 N 0 l10) fun l15 =>
  Option.bind (impl_indicesOf N l15) fun q18 =>
  some q18
def laws_markFrameS_L1 (N : Nat) : Nat → Int → Int → (List RFrame) → Option (Int × (List RFrame))
 | 0, _, _, _ => none
 | n + 1, k4, i5, l6 =>
  if (decide (i5 < (Sh.len l6))) = true then
   Option.bind (Sh.get l6 i5) fun c16 =>
   Option.bind (Sh.get (Sh.put l6 i5 (RFrame.mk k4 c16.at_ c16.dst c16.regs c16.own c16.held)) i5) fun c19 =>
   Option.bind (Sh.get (Sh.put (Sh.put l6 i5 (RFrame.mk k4 c16.at_ c16.dst c16.regs c16.own c16.held)) i5 (RFrame.mk c19.proc (Sh.w (k4 + 1)) c19.dst c19.regs c19.own c19.held)) i5) fun c22 =>
   Option.bind (Sh.get (Sh.put (Sh.put (Sh.put l6 i5 (RFrame.mk k4 c16.at_ c16.dst c16.regs c16.own c16.held)) i5 (RFrame.mk c19.proc (Sh.w (k4 + 1)) c19.dst c19.regs c19.own c19.held)) i5 (RFrame.mk c22.proc c22.at_ (Sh.w ((Sh.w (k4 + 1)) + 1)) c22.regs c22.own c22.held)) i5) fun c25 =>
   Option.bind (laws_markIntS N c25.regs (Sh.w ((Sh.w ((Sh.w (k4 + 1)) + 1)) + 1))) fun q26 =>
   Option.bind (Sh.get (Sh.put (Sh.put (Sh.put (Sh.put l6 i5 (RFrame.mk k4 c16.at_ c16.dst c16.regs c16.own c16.held)) i5 (RFrame.mk c19.proc (Sh.w (k4 + 1)) c19.dst c19.regs c19.own c19.held)) i5 (RFrame.mk c22.proc c22.at_ (Sh.w ((Sh.w (k4 + 1)) + 1)) c22.regs c22.own c22.held)) i5 (RFrame.mk c25.proc c25.at_ c25.dst q26.2 c25.own c25.held)) i5) fun c29 =>
   Option.bind (laws_markIntS N c29.own q26.1) fun q30 =>
   Option.bind (Sh.get (Sh.put (Sh.put (Sh.put (Sh.put (Sh.put l6 i5 (RFrame.mk k4 c16.at_ c16.dst c16.regs c16.own c16.held)) i5 (RFrame.mk c19.proc (Sh.w (k4 + 1)) c19.dst c19.regs c19.own c19.held)) i5 (RFrame.mk c22.proc c22.at_ (Sh.w ((Sh.w (k4 + 1)) + 1)) c22.regs c22.own c22.held)) i5 (RFrame.mk c25.proc c25.at_ c25.dst q26.2 c25.own c25.held)) i5 (RFrame.mk c29.proc c29.at_ c29.dst c29.regs q30.2 c29.held)) i5) fun c32 =>
   Option.bind (laws_markIntS N c32.held q30.1) fun q33 =>
   laws_markFrameS_L1 N n q33.1 (Sh.w (i5 + 1)) (Sh.put (Sh.put (Sh.put (Sh.put (Sh.put (Sh.put l6 i5 (RFrame.mk k4 c16.at_ c16.dst c16.regs c16.own c16.held)) i5 (RFrame.mk c19.proc (Sh.w (k4 + 1)) c19.dst c19.regs c19.own c19.held)) i5 (RFrame.mk c22.proc c22.at_ (Sh.w ((Sh.w (k4 + 1)) + 1)) c22.regs c22.own c22.held)) i5 (RFrame.mk c25.proc c25.at_ c25.dst q26.2 c25.own c25.held)) i5 (RFrame.mk c29.proc c29.at_ c29.dst c29.regs q30.2 c29.held)) i5 (RFrame.mk c32.proc c32.at_ c32.dst c32.regs c32.own q33.2))
  else
   some (k4, l6)
def laws_markFrameS (N : Nat) (s0 : (List RFrame)) (p1 : Int) : Option (Int × (List RFrame)) :=
 Option.bind (laws_markFrameS_L1 N N p1 0 s0) fun (k7, l8) =>
 some (k7, l8)
def laws_markState (N : Nat) (s0 : (List Int)) (s1 : (List Cell)) (s2 : (List RFrame)) (p0_0 : Int) (p0_1 : Int) (p0_2 : Int) (p0_3 : Int) (p1 : Int) : Option (Int × (List Int) × (List Cell) × (List RFrame)) :=
 Option.bind (laws_markIntS N s0 p1) fun q3 =>
 Option.bind (laws_markCellS N s1 q3.1) fun q6 =>
 Option.bind (laws_markFrameS N s2 q6.1) fun q9 =>
 some (q9.1, q3.2, q6.2, q9.2)
def laws_FnExactOwnedCells (N : Nat) (p0 : RImage) (p1 : RState) : Option (Bool) :=
 Option.bind (laws_szImage N p0 1048576) fun q4 =>
 if (decide (q4 < 0)) = true then
  some true
 else
  Option.bind (laws_szState N p1 q4) fun q10 =>
  if (decide (q10 < 0)) = true then
   some true
  else
   Option.bind (laws_toImage N p0) fun q16 =>
   Option.bind (laws_toState N p1) fun q17 =>
   Option.bind (spec_OwnedCells N q16 q17) fun q18 =>
   Option.bind (laws_toImage N p0) fun q20 =>
   Option.bind (laws_toState N p1) fun q22 =>
   Option.bind (impl_OwnedCells N q20 q22) fun q24 =>
   Option.bind (laws_eqIntS N q24 q18) fun q27 =>
   if (!q27) = true then
    some false
   else
    Option.bind (laws_toImage N p0) fun q34 =>
    Option.bind (laws_eqImage N q20 q34) fun q35 =>
    if (!q35) = true then
     some false
    else
     Option.bind (laws_toState N p1) fun q42 =>
     Option.bind (laws_eqState N q22 q42) fun q43 =>
     if (!q43) = true then
      some false
     else
      Option.bind (laws_markImage N q20.decls q20.procs 1) fun q50 =>
      Option.bind (laws_markState N q22.out q22.heap q22.frames q22.status q22.value q22.calls q22.most q50.1) fun q54 =>
      Option.bind (
       if (decide (q54.1 < 0)) = true then
        some true
       else
        Option.bind (laws_eqIntS N q24 q18) fun q107 =>
        some (!q107)
      ) fun t60 =>
      if t60 = true then
       some false
      else
       Option.bind (laws_markIntS N q24 1) fun q66 =>
       Option.bind (laws_heldIntS N q66.2 1) fun q70 =>
       if (decide (q70 < 0)) = true then
        some false
       else
       if (!decide (q70 = q66.1)) = true then
        some false
       else
        Option.bind (laws_toImage N p0) fun q82 =>
        Option.bind (laws_toState N p1) fun q83 =>
        Option.bind (impl_OwnedCells N q82 q83) fun q84 =>
        Option.bind (laws_eqIntS N q84 q18) fun q87 =>
        if (!q87) = true then
         some false
        else
         Option.bind (laws_heldIntS N q66.2 1) fun q94 =>
         if (decide (q94 < 0)) = true then
          some false
         else
         if (!decide (q94 = q66.1)) = true then
          some false
         else
          some true
end RC

