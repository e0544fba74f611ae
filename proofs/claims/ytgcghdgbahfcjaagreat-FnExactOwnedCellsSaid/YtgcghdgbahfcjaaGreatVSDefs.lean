import Derived.Test.YtgcghdgbahfcjaaGreatGEncDToEncG
import Derived.Test.YtgcghdgbahfcjaaGreatHADefs
import Derived.Test.YtgcghdgbahfcjaaGreatIADefs
namespace RC
def laws_szFrame (p0 : RFrame) (p1 : Int) : Option (Int) :=
 Option.bind (laws_szIntS p0.regs p1) fun q3 =>
 if (decide (q3 < 0)) = true then
  some (-1)
 else
  Option.bind (laws_szIntS p0.own q3) fun q9 =>
  if (decide (q9 < 0)) = true then
   some (-1)
  else
   Option.bind (laws_szIntS p0.held q9) fun q15 =>
   if (decide (q15 < 0)) = true then
    some (-1)
   else
    some q15
def laws_szFrameS_L1 (p0 : (List RFrame)) : Nat → Int → Int → Option ((Int) ⊕ (Int))
 | 0, _, _ => none
 | n + 1, left9, i10 =>
  if (decide (i10 < (Sh.len p0))) = true then
   Option.bind (Sh.get p0 i10) fun c19 =>
   Option.bind (laws_szFrame c19 left9) fun q20 =>
   if (decide (q20 < 0)) = true then
    some (Sum.inl (-1))
   else
    laws_szFrameS_L1 p0 n q20 (Sh.w (i10 + 1))
  else
   some (Sum.inr left9)
def laws_szFrameS (N : Nat) (p0 : (List RFrame)) (p1 : Int) : Option (Int) :=
 if (decide ((Sh.w (p1 - (Sh.len p0))) < 0)) = true then
  some (-1)
 else
  Sh.cont (laws_szFrameS_L1 p0 N (Sh.w (p1 - (Sh.len p0))) 0) (id) fun left11 =>
  some left11
def laws_szState (N : Nat) (p0 : RState) (p1 : Int) : Option (Int) :=
 Option.bind (laws_szIntS p0.out p1) fun q3 =>
 if (decide (q3 < 0)) = true then
  some (-1)
 else
  Option.bind (laws_szCellS N p0.heap q3) fun q9 =>
  if (decide (q9 < 0)) = true then
   some (-1)
  else
   Option.bind (laws_szFrameS N p0.frames q9) fun q15 =>
   if (decide (q15 < 0)) = true then
    some (-1)
   else
    some q15
def laws_toFrame (N : Nat) (p0 : RFrame) : Option (RFrame) :=
 Option.bind (laws_toIntS N p0.regs) fun q7 =>
 Option.bind (laws_toIntS N p0.own) fun q9 =>
 Option.bind (laws_toIntS N p0.held) fun q11 =>
 some (RFrame.mk p0.proc p0.at_ p0.dst q7 q9 q11)
def laws_toFrameS_L1 (N : Nat) (p0 : (List RFrame)) : Nat → Int → (List RFrame) → Option ((List RFrame))
 | 0, _, _ => none
 | n + 1, i6, l7 =>
  if (decide (i6 < (Sh.len p0))) = true then
   Option.bind (Sh.get p0 i6) fun c15 =>
   Option.bind (laws_toFrame N c15) fun q16 =>
   Option.bind (Sh.get l7 i6) fun c17 =>
   laws_toFrameS_L1 N p0 n (Sh.w (i6 + 1)) (Sh.put l7 i6 q16)
  else
   some l7
def laws_toFrameS (N : Nat) (p0 : (List RFrame)) : Option ((List RFrame)) :=
 Option.bind (Sh.mk (RFrame.mk 0 0 0 [] [] []) (Sh.len p0) 96) fun l3 =>
 Option.bind (laws_toFrameS_L1 N p0 N 0 l3) fun l8 =>
 some l8
def laws_toState (N : Nat) (p0 : RState) : Option (RState) :=
 Option.bind (laws_toIntS N p0.out) fun q8 =>
 Option.bind (laws_toCellS N p0.heap) fun q10 =>
 Option.bind (laws_toFrameS N p0.frames) fun q12 =>
 some (RState.mk p0.status p0.value p0.calls p0.most q8 q10 q12)
def spec_allInRange_L1 (p0 : (List Int)) : Nat → Int → Option ((Bool) ⊕ (Unit))
 | 0, _ => none
 | n + 1, i4 =>
  if (decide (i4 < (Sh.len p0))) = true then
   Option.bind (Sh.get p0 i4) fun c12 =>
   Option.bind (spec_inRange c12 (-999) 999) fun q13 =>
   if (!q13) = true then
    some (Sum.inl false)
   else
    spec_allInRange_L1 p0 n (Sh.w (i4 + 1))
  else
   some (Sum.inr ())
def spec_allInRange (N : Nat) (p0 : (List Int)) : Option (Bool) :=
 Sh.cont (spec_allInRange_L1 p0 N 0) (id) fun () =>
 some true
def spec_validRegs_L1 (p0 : (List Cell)) (p1 : RFrame) : Nat → Int → Option ((Bool) ⊕ (Unit))
 | 0, _ => none
 | n + 1, r4 =>
  if (decide (r4 < (Sh.len p1.regs))) = true then
   Option.bind (Sh.get p1.regs r4) fun c12 =>
   Option.bind (
    Option.bind (spec_inRange c12 (-999) 999) fun q18 =>
    if (!q18) = true then
     Option.bind (spec_isPointer c12) fun q20 =>
     if (!q20) = true then
      some true
     else
      Option.bind (Sh.get p1.own r4) fun c22 =>
      Option.bind (spec_inRange c22 0 999999) fun q23 =>
      if (!q23) = true then
       some true
      else
      if (decide (0 < c22)) = true then
       Option.bind (spec_isLive p0 c12) fun q26 =>
       some (!q26)
      else
       some false
    else
     Option.bind (Sh.get p1.own r4) fun c27 =>
     Option.bind (spec_inRange c27 0 999999) fun q28 =>
     if (!q28) = true then
      some true
     else
     if (decide (0 < c27)) = true then
      Option.bind (spec_isLive p0 c12) fun q31 =>
      some (!q31)
     else
      some false
   ) fun t14 =>
   if t14 = true then
    some (Sum.inl false)
   else
    spec_validRegs_L1 p0 p1 n (Sh.w (r4 + 1))
  else
   some (Sum.inr ())
def spec_validRegs (N : Nat) (p0 : (List Cell)) (p1 : RFrame) : Option (Bool) :=
 Sh.cont (spec_validRegs_L1 p0 p1 N 0) (id) fun () =>
 some true
def spec_validFrame (N : Nat) (p0 : RImage) (p1 : RState) (p2 : Int) : Option (Bool) :=
 Option.bind (Sh.get p1.frames p2) fun c3 =>
 Option.bind (spec_inRange c3.proc 0 (Sh.w ((Sh.len p0.procs) - 1))) fun q6 =>
 if (!q6) = true then
  some false
 else
  Option.bind (Sh.get p0.procs c3.proc) fun c12 =>
  Option.bind (
   Option.bind (spec_inRange c3.at_ 0 (Sh.w ((Sh.len c12.code) - 1))) fun q30 =>
   if (!q30) = true then
    some true
   else
   if (!decide ((Sh.len c3.regs) = c12.regs)) = true then
    some true
   else
   if (!decide ((Sh.len c3.own) = c12.regs)) = true then
    some true
   else
   if (!decide ((Sh.len c3.held) = c12.regs)) = true then
    some true
   else
    Option.bind (spec_validRegs N p1.heap c3) fun q35 =>
    some (!q35)
  ) fun t15 =>
  if t15 = true then
   some false
  else
  if (decide (p2 = 0)) = true then
   some (decide (c3.dst = 0))
  else
   Option.bind (
    Option.bind (Sh.get p1.frames (Sh.w (p2 - 1))) fun c26 =>
    Option.bind (spec_inRange c3.dst 0 (Sh.w ((Sh.len c26.own) - 1))) fun q27 =>
    if q27 = true then
     Option.bind (Sh.get c26.own c3.dst) fun c29 =>
     some (decide (c29 = 0))
    else
     some false
   ) fun t24 =>
   some t24
def spec_heldOnce_L2 (l8 : (List Int)) (p0 : RState) : Nat → Int → Option ((Bool) ⊕ (Unit))
 | 0, _ => none
 | n + 1, i12 =>
  if (decide (i12 < (Sh.len l8))) = true then
   Option.bind (
    Option.bind (Sh.get p0.heap i12) fun c24 =>
    if (decide (c24.count < 0)) = true then
     Option.bind (Sh.get l8 i12) fun c26 =>
     if (!decide (c26 = 1)) = true then
      some true
     else
     if (decide (0 ≤ c24.count)) = true then
      some (!decide (c26 = 0))
     else
      some false
    else
    if (decide (0 ≤ c24.count)) = true then
     Option.bind (Sh.get l8 i12) fun c30 =>
     some (!decide (c30 = 0))
    else
     some false
   ) fun t20 =>
   if t20 = true then
    some (Sum.inl false)
   else
    spec_heldOnce_L2 l8 p0 n (Sh.w (i12 + 1))
  else
   some (Sum.inr ())
def spec_heldOnce_L3 (i6 : Int) (p0 : RState) : Nat → Int → (List Int) → Option ((Bool) ⊕ ((List Int)))
 | 0, _, _ => none
 | n + 1, r36, l37 =>
  Option.bind (Sh.get p0.frames i6) fun c42 =>
  if (decide (r36 < (Sh.len c42.held))) = true then
   Sh.cont (
    Option.bind (Sh.get c42.held r36) fun c48 =>
    if (!decide (c48 = 0)) = true then
     Option.bind (
      Option.bind (spec_isPointer c48) fun q59 =>
      if (!q59) = true then
       some true
      else
       Option.bind (spec_inRange (Sh.w (c48 - 1000)) 0 (Sh.w ((Sh.len p0.heap) - 1))) fun q61 =>
       some (!q61)
     ) fun t54 =>
     if t54 = true then
      some (Sum.inl (Sum.inl false))
     else
      Option.bind (Sh.get l37 (Sh.w (c48 - 1000))) fun c58 =>
      some (Sum.inr (Sh.put l37 (Sh.w (c48 - 1000)) (Sh.w (c58 + 1))))
    else
     some (Sum.inr l37)
   ) (id) fun l45 =>
   spec_heldOnce_L3 i6 p0 n (Sh.w (r36 + 1)) l45
  else
   some (Sum.inr l37)
def spec_heldOnce_L1 (N : Nat) (p0 : RState) : Nat → Int → (List Int) → Option ((Bool) ⊕ ((List Int)))
 | 0, _, _ => none
 | n + 1, i6, l7 =>
  if (decide (i6 < (Sh.len p0.frames))) = true then
   Sh.cont (spec_heldOnce_L3 i6 p0 N 0 l7) (fun x => Sum.inl x) fun l38 =>
   spec_heldOnce_L1 N p0 n (Sh.w (i6 + 1)) l38
  else
   some (Sum.inr l7)
def spec_heldOnce (N : Nat) (p0 : RState) : Option (Bool) :=
 Option.bind (Sh.mk 0 (Sh.len p0.heap) 8) fun l3 =>
 Sh.cont (spec_heldOnce_L1 N p0 N 0 l3) (id) fun l8 =>
 Sh.cont (spec_heldOnce_L2 l8 p0 N 0) (id) fun () =>
 some true
def spec_ownersOf_L2 (c16 : RFrame) : Nat → Int → (List Int) → Option ((List Int))
 | 0, _, _ => none
 | n + 1, r18, l19 =>
  if (decide (r18 < (Sh.len c16.own))) = true then
   Option.bind (
    Option.bind (Sh.get c16.own r18) fun c29 =>
    if (decide (0 < c29)) = true then
     Option.bind (Sh.get c16.regs r18) fun c31 =>
     Option.bind (Sh.get l19 (Sh.w (c31 - 1000))) fun c32 =>
     some (Sh.put l19 (Sh.w (c31 - 1000)) (Sh.w (c32 + c29)))
    else
     some l19
   ) fun l26 =>
   spec_ownersOf_L2 c16 n (Sh.w (r18 + 1)) l26
  else
   some l19
def spec_ownersOf_L1 (N : Nat) (p0 : RState) : Nat → Int → (List Int) → Option ((List Int))
 | 0, _, _ => none
 | n + 1, i6, l7 =>
  if (decide (i6 < (Sh.len p0.frames))) = true then
   Option.bind (Sh.get p0.frames i6) fun c16 =>
   Option.bind (spec_ownersOf_L2 c16 N 0 l7) fun l20 =>
   spec_ownersOf_L1 N p0 n (Sh.w (i6 + 1)) l20
  else
   some l7
def spec_ownersOf (N : Nat) (p0 : RState) : Option ((List Int)) :=
 Option.bind (Sh.mk 0 (Sh.len p0.heap) 8) fun l3 =>
 Option.bind (spec_ownersOf_L1 N p0 N 0 l3) fun l8 =>
 some l8
def spec_exactCounts_L1 (p0 : RState) (q3 : (List Int)) (q5 : (List Int)) : Nat → Int → Option ((Bool) ⊕ (Unit))
 | 0, _ => none
 | n + 1, i8 =>
  if (decide (i8 < (Sh.len p0.heap))) = true then
   Option.bind (
    Option.bind (Sh.get p0.heap i8) fun c20 =>
    if (decide (0 < c20.count)) = true then
     Option.bind (Sh.get q3 i8) fun c22 =>
     Option.bind (Sh.get q5 i8) fun c23 =>
     some (!decide (c20.count = (Sh.w (c22 + c23))))
    else
     some false
   ) fun t16 =>
   if t16 = true then
    some (Sum.inl false)
   else
    spec_exactCounts_L1 p0 q3 q5 n (Sh.w (i8 + 1))
  else
   some (Sum.inr ())
def spec_exactCounts (N : Nat) (p0 : RState) : Option (Bool) :=
 Option.bind (spec_refsOf N p0.heap) fun q3 =>
 Option.bind (spec_ownersOf N p0) fun q5 =>
 Sh.cont (spec_exactCounts_L1 p0 q3 q5 N 0) (id) fun () =>
 some true
def spec_validState_L1 (N : Nat) (p0 : RImage) (p1 : RState) : Nat → Int → Option ((Bool) ⊕ (Unit))
 | 0, _ => none
 | n + 1, k22 =>
  if (decide (k22 < (Sh.len p1.frames))) = true then
   Option.bind (spec_validFrame N p0 p1 k22) fun q35 =>
   if (!q35) = true then
    some (Sum.inl false)
   else
    spec_validState_L1 N p0 p1 n (Sh.w (k22 + 1))
  else
   some (Sum.inr ())
def spec_validState (N : Nat) (p0 : RImage) (p1 : RState) : Option (Bool) :=
 Option.bind (
  Option.bind (spec_validImage N p0) fun q54 =>
  if (!q54) = true then
   some true
  else
   Option.bind (spec_inRange p1.status 0 3) fun q56 =>
   if (!q56) = true then
    some true
   else
    some ((decide (p1.status = 0)) != (decide ((Sh.len p1.frames) = 0)))
 ) fun t4 =>
 if t4 = true then
  some false
 else
  Option.bind (
   Option.bind (spec_inRange p1.value (-999) 999) fun q44 =>
   if (!q44) = true then
    some true
   else
   if (!decide (p1.value = 0)) = true then
    if (!decide (p1.status = 0)) = true then
     some true
    else
     Option.bind (spec_inRange p1.most 0 40) fun q48 =>
     if (!q48) = true then
      some true
     else
      Option.bind (spec_inRange p1.calls 0 p1.most) fun q50 =>
      some (!q50)
   else
    Option.bind (spec_inRange p1.most 0 40) fun q51 =>
    if (!q51) = true then
     some true
    else
     Option.bind (spec_inRange p1.calls 0 p1.most) fun q53 =>
     some (!q53)
  ) fun t10 =>
  if t10 = true then
   some false
  else
   Option.bind (
    if (decide ((Sh.w (p1.calls + 1)) < (Sh.len p1.frames))) = true then
     some true
    else
     Option.bind (spec_allInRange N p1.out) fun q41 =>
     if (!q41) = true then
      some true
     else
      Option.bind (spec_validHeap N p1.heap) fun q43 =>
      some (!q43)
   ) fun t16 =>
   if t16 = true then
    some false
   else
    Sh.cont (spec_validState_L1 N p0 p1 N 0) (id) fun () =>
    Option.bind (
     Option.bind (spec_heldOnce N p1) fun q27 =>
     if q27 = true then
      Option.bind (spec_exactCounts N p1) fun q29 =>
      some q29
     else
      some false
    ) fun t25 =>
    some t25
def spec_ValidState (N : Nat) (p0 : RImage) (p1 : RState) : Option (Bool) :=
 Option.bind (spec_validState N p0 p1) fun q3 =>
 some q3
def impl_stateValid_1 (p0 : Int) : Option (Bool) :=
 Option.bind (impl_isInt p0) fun q3 =>
 some (!q3)
def slices_IndexFunc_int_int_2_L1 (p0 : (List Int)) : Nat → Int → Option ((Int) ⊕ (Unit))
 | 0, _ => none
 | n + 1, t4 =>
  if (decide (t4 < (Sh.len p0))) = true then
   Option.bind (Sh.get p0 t4) fun c13 =>
   Option.bind (impl_stateValid_1 c13) fun q14 =>
   if q14 = true then
    some (Sum.inl t4)
   else
    slices_IndexFunc_int_int_2_L1 p0 n (Sh.w (t4 + 1))
  else
   some (Sum.inr ())
def slices_IndexFunc_int_int_2 (N : Nat) (p0 : (List Int)) : Option (Int) :=
 Sh.cont (slices_IndexFunc_int_int_2_L1 p0 N 0) (id) fun () =>
 some (-1)
def slices_ContainsFunc_int_int_2 (N : Nat) (p0 : (List Int)) : Option (Bool) :=
 Option.bind (slices_IndexFunc_int_int_2 N p0) fun q3 =>
 some (decide (0 ≤ q3))
def impl_frameValid_L1 (p1 : RFrame) : Nat → Int → Option ((Bool) ⊕ (Unit))
 | 0, _ => none
 | n + 1, t18 =>
  if (decide (t18 < (Sh.len p1.regs))) = true then
   Option.bind (Sh.get p1.regs t18) fun c26 =>
   Option.bind (
    Option.bind (impl_isInt c26) fun q32 =>
    if (!q32) = true then
     if (decide (c26 < 1000)) = true then
      some true
     else
      Option.bind (Sh.get p1.own t18) fun c35 =>
      if (decide (c35 < 0)) = true then
       some true
      else
       some (decide (999999 < c35))
    else
     Option.bind (Sh.get p1.own t18) fun c37 =>
     if (decide (c37 < 0)) = true then
      some true
     else
      some (decide (999999 < c37))
   ) fun t28 =>
   if t28 = true then
    some (Sum.inl false)
   else
    impl_frameValid_L1 p1 n (Sh.w (t18 + 1))
  else
   some (Sum.inr ())
def impl_frameValid (N : Nat) (p0 : RImage) (p1 : RFrame) : Option (Bool) :=
 Option.bind (
  if (decide (p1.proc < 0)) = true then
   some true
  else
   some (decide ((Sh.len p0.procs) ≤ p1.proc))
 ) fun t4 =>
 if t4 = true then
  some false
 else
  Option.bind (Sh.get p0.procs p1.proc) fun c9 =>
  Option.bind (
   if (decide (p1.at_ < 0)) = true then
    some true
   else
   if (decide ((Sh.len c9.code) ≤ p1.at_)) = true then
    some true
   else
   if (!decide ((Sh.len p1.regs) = c9.regs)) = true then
    some true
   else
   if (!decide ((Sh.len p1.own) = c9.regs)) = true then
    some true
   else
    some (!decide ((Sh.len p1.held) = c9.regs))
  ) fun t12 =>
  if t12 = true then
   some false
  else
   Sh.cont (impl_frameValid_L1 p1 N 0) (id) fun () =>
   some true
def impl_Frame_tally_L1 (p0 : RFrame) (p1 : (List Cell)) : Nat → Int → (List Int) → (List Int) → Option ((Bool × (List Int) × (List Int)) ⊕ ((List Int) × (List Int)))
 | 0, _, _, _ => none
 | n + 1, t4, l5, l6 =>
  if (decide (t4 < (Sh.len p0.own))) = true then
   Sh.cont (
    Option.bind (Sh.get p0.own t4) fun c19 =>
    Sh.cont (
     if (decide (0 < c19)) = true then
      Option.bind (Sh.get p0.regs t4) fun c42 =>
      Option.bind (impl_liveAt p1 c42) fun q43 =>
      if (!q43.2) = true then
       some (Sum.inl (Sum.inl (Sum.inl (false, l5, l6))))
      else
       Option.bind (Sh.get l5 q43.1) fun c50 =>
       some (Sum.inr (Sh.put l5 q43.1 (Sh.w (c50 + c19))))
     else
      some (Sum.inr l5)
    ) (id) fun l21 =>
    Option.bind (Sh.get p0.held t4) fun c24 =>
    if (!decide (c24 = 0)) = true then
     Option.bind (
      if (decide ((Sh.w (c24 - 1000)) < 0)) = true then
       some true
      else
      if (decide ((Sh.len p1) ≤ (Sh.w (c24 - 1000)))) = true then
       some true
      else
       Option.bind (Sh.get p1 (Sh.w (c24 - 1000))) fun c37 =>
       some (decide (0 ≤ c37.count))
     ) fun t30 =>
     if t30 = true then
      some (Sum.inl (Sum.inl (false, l21, l6)))
     else
      Option.bind (Sh.get l6 (Sh.w (c24 - 1000))) fun c34 =>
      some (Sum.inr (l21, Sh.put l6 (Sh.w (c24 - 1000)) (Sh.w (c34 + 1))))
    else
     some (Sum.inr (l21, l6))
   ) (id) fun (l15, l16) =>
   impl_Frame_tally_L1 p0 p1 n (Sh.w (t4 + 1)) l15 l16
  else
   some (Sum.inr (l5, l6))
def impl_Frame_tally (N : Nat) (s0 : (List Int)) (s1 : (List Int)) (p0 : RFrame) (p1 : (List Cell)) : Option (Bool × (List Int) × (List Int)) :=
 Sh.cont (impl_Frame_tally_L1 p0 p1 N 0 s0 s1) (id) fun (l7, l8) =>
 some (true, l7, l8)
def impl_stateValid_L2 (l29 : (List Int)) (l30 : (List Int)) (p1 : RState) : Nat → Int → Option ((Bool) ⊕ (Unit))
 | 0, _ => none
 | n + 1, t34 =>
  if (decide (t34 < (Sh.len p1.heap))) = true then
   Option.bind (Sh.get p1.heap t34) fun c42 =>
   Option.bind (
    if (decide (0 < c42.count)) = true then
     Option.bind (Sh.get l29 t34) fun c49 =>
     if (!decide (c42.count = c49)) = true then
      some true
     else
     if (decide (c42.count < 0)) = true then
      Option.bind (Sh.get l30 t34) fun c52 =>
      some (!decide (c52 = 1))
     else
      some false
    else
    if (decide (c42.count < 0)) = true then
     Option.bind (Sh.get l30 t34) fun c54 =>
     some (!decide (c54 = 1))
    else
     some false
   ) fun t44 =>
   if t44 = true then
    some (Sum.inl false)
   else
    impl_stateValid_L2 l29 l30 p1 n (Sh.w (t34 + 1))
  else
   some (Sum.inr ())
def impl_stateValid_L1 (N : Nat) (p0 : RImage) (p1 : RState) : Nat → Int → (List Int) → (List Int) → Option ((Bool) ⊕ ((List Int) × (List Int)))
 | 0, _, _, _ => none
 | n + 1, t26, l27, l28 =>
  if (decide (t26 < (Sh.len p1.frames))) = true then
   Option.bind (Sh.get p1.frames t26) fun c60 =>
   Option.bind (impl_frameValid N p0 c60) fun q63 =>
   if (!q63) = true then
    some (Sum.inl false)
   else
    Option.bind (
     if (decide (t26 = 0)) = true then
      if (!decide (c60.dst = 0)) = true then
       some true
      else
      if (decide (0 < t26)) = true then
       if (decide (c60.dst < 0)) = true then
        some true
       else
        Option.bind (Sh.get p1.frames (Sh.w (t26 - 1))) fun c86 =>
        if (decide ((Sh.len c86.own) ≤ c60.dst)) = true then
         some true
        else
         Option.bind (Sh.get c86.own c60.dst) fun c88 =>
         some (!decide (c88 = 0))
      else
       some false
     else
     if (decide (0 < t26)) = true then
      if (decide (c60.dst < 0)) = true then
       some true
      else
       Option.bind (Sh.get p1.frames (Sh.w (t26 - 1))) fun c91 =>
       if (decide ((Sh.len c91.own) ≤ c60.dst)) = true then
        some true
       else
        Option.bind (Sh.get c91.own c60.dst) fun c93 =>
        some (!decide (c93 = 0))
     else
      some false
    ) fun t70 =>
    if t70 = true then
     some (Sum.inl false)
    else
     Option.bind (impl_Frame_tally N l27 l28 c60 p1.heap) fun q75 =>
     if (!q75.1) = true then
      some (Sum.inl false)
     else
      impl_stateValid_L1 N p0 p1 n (Sh.w (t26 + 1)) q75.2.1 q75.2.2
  else
   some (Sum.inr (l27, l28))
def impl_stateValid (N : Nat) (p0 : RImage) (p1 : RState) : Option (Bool) :=
 Option.bind (
  if (decide (p1.status < 0)) = true then
   some true
  else
  if (decide (3 < p1.status)) = true then
   some true
  else
  if ((decide (p1.status = 0)) != (decide ((Sh.len p1.frames) = 0))) = true then
   some true
  else
   Option.bind (impl_isInt p1.value) fun q103 =>
   if (!q103) = true then
    some true
   else
   if (!decide (p1.value = 0)) = true then
    some (!decide (p1.status = 0))
   else
    some false
 ) fun t4 =>
 if t4 = true then
  some false
 else
  Option.bind (
   if (decide (p1.most < 0)) = true then
    some true
   else
   if (decide (40 < p1.most)) = true then
    some true
   else
   if (decide (p1.calls < 0)) = true then
    some true
   else
   if (decide (p1.most < p1.calls)) = true then
    some true
   else
    some (decide ((Sh.w (p1.calls + 1)) < (Sh.len p1.frames)))
  ) fun t10 =>
  if t10 = true then
   some false
  else
   Option.bind (impl_checkedHeap N p1.heap) fun q15 =>
   Option.bind (
    if (!q15.2) = true then
     some true
    else
     Option.bind (slices_ContainsFunc_int_int_2 N p1.out) fun q95 =>
     some q95
   ) fun t18 =>
   if t18 = true then
    some false
   else
    Option.bind (Sh.mk 0 (Sh.len p1.heap) 8) fun l23 =>
    Sh.cont (impl_stateValid_L1 N p0 p1 N 0 q15.1 l23) (id) fun (l29, l30) =>
    Sh.cont (impl_stateValid_L2 l29 l30 p1 N 0) (id) fun () =>
    some true
def impl_ValidState (N : Nat) (p0 : RImage) (p1 : RState) : Option (Bool) :=
 Option.bind (
  Option.bind (impl_ValidImage N p0) fun q5 =>
  if q5 = true then
   Option.bind (impl_stateValid N p0 p1) fun q7 =>
   some q7
  else
   some false
 ) fun t3 =>
 some t3
def laws_eqFrame (N : Nat) (p0 : RFrame) (p1 : RFrame) : Option (Bool) :=
 if (!decide (p0.proc = p1.proc)) = true then
  some false
 else
 if (!decide (p0.at_ = p1.at_)) = true then
  some false
 else
 if (!decide (p0.dst = p1.dst)) = true then
  some false
 else
  Option.bind (laws_eqIntS N p0.regs p1.regs) fun q22 =>
  if (!q22) = true then
   some false
  else
   Option.bind (laws_eqIntS N p0.own p1.own) fun q29 =>
   if (!q29) = true then
    some false
   else
    Option.bind (laws_eqIntS N p0.held p1.held) fun q36 =>
    if (!q36) = true then
     some false
    else
     some true
def laws_eqFrameS_L1 (N : Nat) (p0 : (List RFrame)) (p1 : (List RFrame)) : Nat → Int → Option ((Bool) ⊕ (Unit))
 | 0, _ => none
 | n + 1, i10 =>
  if (decide (i10 < (Sh.len p0))) = true then
   Option.bind (Sh.get p0 i10) fun c18 =>
   Option.bind (Sh.get p1 i10) fun c19 =>
   Option.bind (laws_eqFrame N c18 c19) fun q20 =>
   if (!q20) = true then
    some (Sum.inl false)
   else
    laws_eqFrameS_L1 N p0 p1 n (Sh.w (i10 + 1))
  else
   some (Sum.inr ())
def laws_eqFrameS (N : Nat) (p0 : (List RFrame)) (p1 : (List RFrame)) : Option (Bool) :=
 if (!decide ((Sh.len p0) = (Sh.len p1))) = true then
  some false
 else
  Sh.cont (laws_eqFrameS_L1 N p0 p1 N 0) (id) fun () =>
  some true
def laws_eqState (N : Nat) (p0 : RState) (p1 : RState) : Option (Bool) :=
 if (!decide (p0.status = p1.status)) = true then
  some false
 else
 if (!decide (p0.value = p1.value)) = true then
  some false
 else
 if (!decide (p0.calls = p1.calls)) = true then
  some false
 else
 if (!decide (p0.most = p1.most)) = true then
  some false
 else
  Option.bind (laws_eqIntS N p0.out p1.out) fun q28 =>
  if (!q28) = true then
   some false
  else
   Option.bind (laws_eqCellS N p0.heap p1.heap) fun q35 =>
   if (!q35) = true then
    some false
   else
    Option.bind (laws_eqFrameS N p0.frames p1.frames) fun q42 =>
    if (!q42) = true then
     some false
    else
     some true
end RC

