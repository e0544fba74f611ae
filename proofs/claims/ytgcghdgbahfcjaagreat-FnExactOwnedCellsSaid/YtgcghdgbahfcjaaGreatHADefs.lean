import Derived.Test.YtgcghdgbahfcjaaGreatGEncToEncB
namespace RC
def laws_szIntS (p0 : (List Int)) (p1 : Int) : Option (Int) :=
 if (decide ((Sh.w (p1 - (Sh.len p0))) < 0)) = true then
  some (-1)
 else
  some (Sh.w (p1 - (Sh.len p0)))
def laws_szCell (p0 : Cell) (p1 : Int) : Option (Int) :=
 Option.bind (laws_szIntS p0.fields p1) fun q3 =>
 if (decide (q3 < 0)) = true then
  some (-1)
 else
  some q3
def laws_szCellS_L1 (p0 : (List Cell)) : Nat → Int → Int → Option ((Int) ⊕ (Int))
 | 0, _, _ => none
 | n + 1, left9, i10 =>
  if (decide (i10 < (Sh.len p0))) = true then
   Option.bind (Sh.get p0 i10) fun c19 =>
   Option.bind (laws_szCell c19 left9) fun q20 =>
   if (decide (q20 < 0)) = true then
    some (Sum.inl (-1))
   else
    laws_szCellS_L1 p0 n q20 (Sh.w (i10 + 1))
  else
   some (Sum.inr left9)
def laws_szCellS (N : Nat) (p0 : (List Cell)) (p1 : Int) : Option (Int) :=
 if (decide ((Sh.w (p1 - (Sh.len p0))) < 0)) = true then
  some (-1)
 else
  Sh.cont (laws_szCellS_L1 p0 N (Sh.w (p1 - (Sh.len p0))) 0) (id) fun left11 =>
  some left11
def laws_toIntS_L1 (p0 : (List Int)) : Nat → Int → (List Int) → Option ((List Int))
 | 0, _, _ => none
 | n + 1, i6, l7 =>
  if (decide (i6 < (Sh.len p0))) = true then
   Option.bind (Sh.get p0 i6) fun c15 =>
   Option.bind (Sh.get l7 i6) fun c16 =>
   laws_toIntS_L1 p0 n (Sh.w (i6 + 1)) (Sh.put l7 i6 c15)
  else
   some l7
def laws_toIntS (N : Nat) (p0 : (List Int)) : Option ((List Int)) :=
 Option.bind (Sh.mk 0 (Sh.len p0) 8) fun l3 =>
 Option.bind (laws_toIntS_L1 p0 N 0 l3) fun l8 =>
 some l8
def laws_toCell (N : Nat) (p0 : Cell) : Option (Cell) :=
 Option.bind (laws_toIntS N p0.fields) fun q6 =>
 some (Cell.mk p0.count p0.tag q6)
def laws_toCellS_L1 (N : Nat) (p0 : (List Cell)) : Nat → Int → (List Cell) → Option ((List Cell))
 | 0, _, _ => none
 | n + 1, i6, l7 =>
  if (decide (i6 < (Sh.len p0))) = true then
   Option.bind (Sh.get p0 i6) fun c15 =>
   Option.bind (laws_toCell N c15) fun q16 =>
   Option.bind (Sh.get l7 i6) fun c17 =>
   laws_toCellS_L1 N p0 n (Sh.w (i6 + 1)) (Sh.put l7 i6 q16)
  else
   some l7
def laws_toCellS (N : Nat) (p0 : (List Cell)) : Option ((List Cell)) :=
 Option.bind (Sh.mk (Cell.mk 0 0 []) (Sh.len p0) 40) fun l3 =>
 Option.bind (laws_toCellS_L1 N p0 N 0 l3) fun l8 =>
 some l8
def spec_inRange (p0 : Int) (p1 : Int) (p2 : Int) : Option (Bool) :=
 Option.bind (
  if (decide (p1 ≤ p0)) = true then
   some (decide (p0 ≤ p2))
  else
   some false
 ) fun t3 =>
 some t3
def spec_allZero_L1 (p0 : (List Int)) : Nat → Int → Option ((Bool) ⊕ (Unit))
 | 0, _ => none
 | n + 1, i4 =>
  if (decide (i4 < (Sh.len p0))) = true then
   Option.bind (Sh.get p0 i4) fun c12 =>
   if (!decide (c12 = 0)) = true then
    some (Sum.inl false)
   else
    spec_allZero_L1 p0 n (Sh.w (i4 + 1))
  else
   some (Sum.inr ())
def spec_allZero (N : Nat) (p0 : (List Int)) : Option (Bool) :=
 Sh.cont (spec_allZero_L1 p0 N 0) (id) fun () =>
 some true
def spec_isPointer (p0 : Int) : Option (Bool) :=
 some (decide (1000 ≤ p0))
def spec_isLive (p0 : (List Cell)) (p1 : Int) : Option (Bool) :=
 Option.bind (
  Option.bind (spec_inRange (Sh.w (p1 - 1000)) 0 (Sh.w ((Sh.len p0) - 1))) fun q5 =>
  if q5 = true then
   Option.bind (spec_isPointer p1) fun q7 =>
   if q7 = true then
    Option.bind (Sh.get p0 (Sh.w (p1 - 1000))) fun c9 =>
    some (decide (0 < c9.count))
   else
    some false
  else
   some false
 ) fun t3 =>
 some t3
def spec_isWord (p0 : (List Cell)) (p1 : Int) : Option (Bool) :=
 Option.bind (
  Option.bind (spec_inRange p1 (-999) 999) fun q5 =>
  if q5 = true then
   some true
  else
   Option.bind (spec_isLive p0 p1) fun q7 =>
   some q7
 ) fun t3 =>
 some t3
def spec_validCell_L1 (p0 : (List Cell)) (p1 : Cell) : Nat → Int → Option ((Bool) ⊕ (Unit))
 | 0, _ => none
 | n + 1, i20 =>
  if (decide (i20 < (Sh.len p1.fields))) = true then
   Option.bind (Sh.get p1.fields i20) fun c29 =>
   Option.bind (spec_isWord p0 c29) fun q30 =>
   if (!q30) = true then
    some (Sum.inl false)
   else
    spec_validCell_L1 p0 p1 n (Sh.w (i20 + 1))
  else
   some (Sum.inr ())
def spec_validCell (N : Nat) (p0 : (List Cell)) (p1 : Cell) : Option (Bool) :=
 Option.bind (
  if (decide (3 < (Sh.len p1.fields))) = true then
   some true
  else
   Option.bind (spec_inRange p1.count (-1) 999999) fun q36 =>
   some (!q36)
 ) fun t4 =>
 if t4 = true then
  some false
 else
 if (decide (p1.count < 1)) = true then
  Option.bind (
   if (decide (p1.tag = 0)) = true then
    Option.bind (spec_allZero N p1.fields) fun q15 =>
    if q15 = true then
     if (decide (p1.count < 0)) = true then
      some true
     else
      some (decide ((Sh.len p1.fields) = 0))
    else
     some false
   else
    some false
  ) fun t12 =>
  some t12
 else
  Sh.cont (spec_validCell_L1 p0 p1 N 0) (id) fun () =>
  Option.bind (spec_inRange p1.tag 0 99) fun q23 =>
  some q23
def spec_refsOf_L2 (i6 : Int) (p0 : (List Cell)) : Nat → Int → (List Int) → Option ((List Int))
 | 0, _, _ => none
 | n + 1, k16, l17 =>
  Option.bind (Sh.get p0 i6) fun c22 =>
  if (decide (k16 < (Sh.len c22.fields))) = true then
   Option.bind (
    Option.bind (Sh.get c22.fields k16) fun c28 =>
    Option.bind (spec_isLive p0 c28) fun q29 =>
    if q29 = true then
     Option.bind (Sh.get l17 (Sh.w (c28 - 1000))) fun c32 =>
     some (Sh.put l17 (Sh.w (c28 - 1000)) (Sh.w (c32 + 1)))
    else
     some l17
   ) fun l25 =>
   spec_refsOf_L2 i6 p0 n (Sh.w (k16 + 1)) l25
  else
   some l17
def spec_refsOf_L1 (N : Nat) (p0 : (List Cell)) : Nat → Int → (List Int) → Option ((List Int))
 | 0, _, _ => none
 | n + 1, i6, l7 =>
  if (decide (i6 < (Sh.len p0))) = true then
   Option.bind (spec_refsOf_L2 i6 p0 N 0 l7) fun l18 =>
   spec_refsOf_L1 N p0 n (Sh.w (i6 + 1)) l18
  else
   some l7
def spec_refsOf (N : Nat) (p0 : (List Cell)) : Option ((List Int)) :=
 Option.bind (Sh.mk 0 (Sh.len p0) 8) fun l3 =>
 Option.bind (spec_refsOf_L1 N p0 N 0 l3) fun l8 =>
 some l8
def spec_allMarked_L1 (p0 : (List Bool)) (p1 : (List Int)) : Nat → Int → Option ((Bool) ⊕ (Unit))
 | 0, _ => none
 | n + 1, i4 =>
  if (decide (i4 < (Sh.len p1))) = true then
   Option.bind (
    Option.bind (Sh.get p1 i4) fun c16 =>
    Option.bind (spec_isPointer c16) fun q17 =>
    if q17 = true then
     Option.bind (Sh.get p0 (Sh.w (c16 - 1000))) fun c19 =>
     some (!c19)
    else
     some false
   ) fun t12 =>
   if t12 = true then
    some (Sum.inl false)
   else
    spec_allMarked_L1 p0 p1 n (Sh.w (i4 + 1))
  else
   some (Sum.inr ())
def spec_allMarked (N : Nat) (p0 : (List Bool)) (p1 : (List Int)) : Option (Bool) :=
 Sh.cont (spec_allMarked_L1 p0 p1 N 0) (id) fun () =>
 some true
def spec_isAcyclic_L2 (N : Nat) (p0 : (List Cell)) : Nat → Int → Bool → Int → (List Bool) → Option (Int × Bool × (List Bool))
 | 0, _, _, _, _ => none
 | n + 1, many18, more19, i20, l21 =>
  if (decide (i20 < (Sh.len p0))) = true then
   Option.bind (
    Option.bind (
     Option.bind (Sh.get l21 i20) fun c41 =>
     if (!c41) = true then
      Option.bind (Sh.get p0 i20) fun c43 =>
      Option.bind (spec_allMarked N l21 c43.fields) fun q44 =>
      some q44
     else
      some false
    ) fun t35 =>
    if t35 = true then
     Option.bind (Sh.get l21 i20) fun c39 =>
     some (Sh.w (many18 + 1), true, Sh.put l21 i20 true)
    else
     some (many18, more19, l21)
   ) fun (many30, more31, l32) =>
   spec_isAcyclic_L2 N p0 n many30 more31 (Sh.w (i20 + 1)) l32
  else
   some (many18, more19, l21)
def spec_isAcyclic_L1 (N : Nat) (p0 : (List Cell)) : Nat → Int → Bool → (List Bool) → Option (Int)
 | 0, _, _, _ => none
 | n + 1, many7, more8, l9 =>
  if more8 = true then
   Option.bind (spec_isAcyclic_L2 N p0 N many7 false 0 l9) fun (many22, more23, l24) =>
   spec_isAcyclic_L1 N p0 n many22 more23 l24
  else
   some many7
def spec_isAcyclic (N : Nat) (p0 : (List Cell)) : Option (Bool) :=
 Option.bind (Sh.mk false (Sh.len p0) 1) fun l3 =>
 Option.bind (spec_isAcyclic_L1 N p0 N 0 true l3) fun many10 =>
 some (decide (many10 = (Sh.len p0)))
def spec_validHeap_L2 (p0 : (List Cell)) (q13 : (List Int)) : Nat → Int → Option ((Bool) ⊕ (Unit))
 | 0, _ => none
 | n + 1, i16 =>
  if (decide (i16 < (Sh.len p0))) = true then
   Option.bind (
    Option.bind (Sh.get p0 i16) fun c29 =>
    if (decide (0 < c29.count)) = true then
     Option.bind (Sh.get q13 i16) fun c31 =>
     some (decide (c29.count < c31))
    else
     some false
   ) fun t25 =>
   if t25 = true then
    some (Sum.inl false)
   else
    spec_validHeap_L2 p0 q13 n (Sh.w (i16 + 1))
  else
   some (Sum.inr ())
def spec_validHeap_L1 (N : Nat) (p0 : (List Cell)) : Nat → Int → Option ((Bool) ⊕ (Unit))
 | 0, _ => none
 | n + 1, i10 =>
  if (decide (i10 < (Sh.len p0))) = true then
   Option.bind (Sh.get p0 i10) fun c37 =>
   Option.bind (spec_validCell N p0 c37) fun q38 =>
   if (!q38) = true then
    some (Sum.inl false)
   else
    spec_validHeap_L1 N p0 n (Sh.w (i10 + 1))
  else
   some (Sum.inr ())
def spec_validHeap (N : Nat) (p0 : (List Cell)) : Option (Bool) :=
 Option.bind (
  if (decide (0 < (Sh.len p0))) = true then
   Option.bind (Sh.get p0 (Sh.w ((Sh.len p0) - 1))) fun c44 =>
   some (decide (c44.count = 0))
  else
   some false
 ) fun t4 =>
 if t4 = true then
  some false
 else
  Sh.cont (spec_validHeap_L1 N p0 N 0) (id) fun () =>
  Option.bind (spec_refsOf N p0) fun q13 =>
  Sh.cont (spec_validHeap_L2 p0 q13 N 0) (id) fun () =>
  Option.bind (spec_isAcyclic N p0) fun q19 =>
  some q19
def spec_ValidHeap (N : Nat) (p0 : (List Cell)) : Option (Bool) :=
 Option.bind (spec_validHeap N p0) fun q3 =>
 some q3
def impl_liveAt (p0 : (List Cell)) (p1 : Int) : Option (Int × Bool) :=
 Option.bind (
  if (decide (1000 ≤ p1)) = true then
   if (decide ((Sh.w (p1 - 1000)) < (Sh.len p0))) = true then
    Option.bind (Sh.get p0 (Sh.w (p1 - 1000))) fun c8 =>
    some (decide (0 < c8.count))
   else
    some false
  else
   some false
 ) fun t4 =>
 some (Sh.w (p1 - 1000), t4)
def impl_isInt (p0 : Int) : Option (Bool) :=
 Option.bind (
  if (decide ((-999) ≤ p0)) = true then
   some (decide (p0 ≤ 999))
  else
   some false
 ) fun t3 =>
 some t3
def impl_wordValid (p0 : (List Cell)) (p1 : Int) : Option (Bool) :=
 Option.bind (impl_liveAt p0 p1) fun q3 =>
 Option.bind (
  if q3.2 = true then
   some true
  else
   Option.bind (impl_isInt p1) fun q8 =>
   some q8
 ) fun t5 =>
 some t5
def impl_cellValid_L1 (p0 : (List Cell)) (p1 : Cell) : Nat → Int → Option ((Bool) ⊕ (Unit))
 | 0, _ => none
 | n + 1, t16 =>
  if (decide (t16 < (Sh.len p1.fields))) = true then
   Option.bind (Sh.get p1.fields t16) fun c24 =>
   Option.bind (
    Option.bind (impl_wordValid p0 c24) fun q30 =>
    if (!q30) = true then
     some true
    else
    if (decide (p1.count < 0)) = true then
     some (!decide (c24 = 0))
    else
     some false
   ) fun t26 =>
   if t26 = true then
    some (Sum.inl false)
   else
    impl_cellValid_L1 p0 p1 n (Sh.w (t16 + 1))
  else
   some (Sum.inr ())
def impl_cellValid (N : Nat) (p0 : (List Cell)) (p1 : Cell) : Option (Bool) :=
 Option.bind (
  if (decide (p1.count < (-1))) = true then
   some true
  else
  if (decide (p1.tag < 0)) = true then
   some true
  else
  if (decide (99 < p1.tag)) = true then
   some true
  else
   some (decide (3 < (Sh.len p1.fields)))
 ) fun t4 =>
 if t4 = true then
  some false
 else
  Option.bind (
   if (decide (p1.count < 1)) = true then
    if (!decide (p1.tag = 0)) = true then
     some true
    else
    if (decide (p1.count = 0)) = true then
     some (decide (0 < (Sh.len p1.fields)))
    else
     some false
   else
   if (decide (p1.count = 0)) = true then
    some (decide (0 < (Sh.len p1.fields)))
   else
    some false
  ) fun t10 =>
  if t10 = true then
   some false
  else
   Sh.cont (impl_cellValid_L1 p0 p1 N 0) (id) fun () =>
   some true
def slices_Clone_int_int (p0 : (List Int)) : Option ((List Int)) :=
 Option.bind (Sh.app ([] : List Int) p0 8) fun l6 =>
 some l6
def impl_checkedHeap_L4 (c39 : Cell) (p0 : (List Cell)) : Nat → Int → (List Int) → (List Int) → Option ((List Int) × (List Int))
 | 0, _, _, _ => none
 | n + 1, t43, l44, l45 =>
  if (decide (t43 < (Sh.len c39.fields))) = true then
   Option.bind (
    Option.bind (Sh.get c39.fields t43) fun c57 =>
    Option.bind (impl_liveAt p0 c57) fun q59 =>
    if q59.2 = true then
     Option.bind (Sh.get l44 q59.1) fun c63 =>
     Option.bind (Sh.get (Sh.put l44 q59.1 (Sh.w (c63 - 1))) q59.1) fun c65 =>
     if (decide (c65 = 0)) = true then
      Option.bind (Sh.app l45 [q59.1] 8) fun l67 =>
      some (Sh.put l44 q59.1 (Sh.w (c63 - 1)), l67)
     else
      some (Sh.put l44 q59.1 (Sh.w (c63 - 1)), l45)
    else
     some (l44, l45)
   ) fun (l53, l54) =>
   impl_checkedHeap_L4 c39 p0 n (Sh.w (t43 + 1)) l53 l54
  else
   some (l44, l45)
def impl_checkedHeap_L3 (N : Nat) (p0 : (List Cell)) : Nat → Int → (List Int) → (List Int) → Option (Int)
 | 0, _, _, _ => none
 | n + 1, many27, l28, l29 =>
  if (decide (0 < (Sh.len l29))) = true then
   Option.bind (Sh.get l29 (Sh.w ((Sh.len l29) - 1))) fun c38 =>
   Option.bind (Sh.get p0 c38) fun c39 =>
   Option.bind (Sh.hi l29 (Sh.w ((Sh.len l29) - 1))) fun l41 =>
   Option.bind (impl_checkedHeap_L4 c39 p0 N 0 l28 l41) fun (l46, l47) =>
   impl_checkedHeap_L3 N p0 n (Sh.w (many27 + 1)) l46 l47
  else
   some many27
def impl_checkedHeap_L2 (l8 : (List Int)) (p0 : (List Cell)) : Nat → Int → (List Int) → Option (((List Int) × Bool) ⊕ ((List Int)))
 | 0, _, _ => none
 | n + 1, t22, l23 =>
  if (decide (t22 < (Sh.len p0))) = true then
   Sh.cont (
    Option.bind (Sh.get p0 t22) fun c75 =>
    Option.bind (
     if (decide (0 < c75.count)) = true then
      Option.bind (Sh.get l8 t22) fun c87 =>
      if (decide (c75.count < c87)) = true then
       some true
      else
       some (decide (999999 < c75.count))
     else
      some false
    ) fun t78 =>
    if t78 = true then
     some (Sum.inl (Sum.inl ([], false)))
    else
     Option.bind (Sh.get l8 t22) fun c83 =>
     if (decide (c83 = 0)) = true then
      Option.bind (Sh.app l23 [t22] 8) fun l85 =>
      some (Sum.inr l85)
     else
      some (Sum.inr l23)
   ) (id) fun l72 =>
   impl_checkedHeap_L2 l8 p0 n (Sh.w (t22 + 1)) l72
  else
   some (Sum.inr l23)
def impl_checkedHeap_L5 (c96 : Cell) (p0 : (List Cell)) : Nat → Int → (List Int) → Option ((List Int))
 | 0, _, _ => none
 | n + 1, t105, l106 =>
  if (decide (t105 < (Sh.len c96.fields))) = true then
   Option.bind (
    Option.bind (Sh.get c96.fields t105) fun c116 =>
    Option.bind (impl_liveAt p0 c116) fun q118 =>
    if q118.2 = true then
     Option.bind (Sh.get l106 q118.1) fun c121 =>
     some (Sh.put l106 q118.1 (Sh.w (c121 + 1)))
    else
     some l106
   ) fun l113 =>
   impl_checkedHeap_L5 c96 p0 n (Sh.w (t105 + 1)) l113
  else
   some l106
def impl_checkedHeap_L1 (N : Nat) (p0 : (List Cell)) : Nat → Int → (List Int) → Option (((List Int) × Bool) ⊕ ((List Int)))
 | 0, _, _ => none
 | n + 1, t6, l7 =>
  if (decide (t6 < (Sh.len p0))) = true then
   Option.bind (Sh.get p0 t6) fun c96 =>
   Option.bind (impl_cellValid N p0 c96) fun q99 =>
   if (!q99) = true then
    some (Sum.inl ([], false))
   else
    Option.bind (impl_checkedHeap_L5 c96 p0 N 0 l7) fun l107 =>
    impl_checkedHeap_L1 N p0 n (Sh.w (t6 + 1)) l107
  else
   some (Sum.inr l7)
def impl_checkedHeap (N : Nat) (p0 : (List Cell)) : Option ((List Int) × Bool) :=
 Option.bind (Sh.mk 0 (Sh.len p0) 8) fun l3 =>
 Sh.cont (impl_checkedHeap_L1 N p0 N 0 l3) (id) fun l8 =>
 Option.bind (
  if (decide (0 < (Sh.len p0))) = true then
   Option.bind (Sh.get p0 (Sh.w ((Sh.len p0) - 1))) fun c90 =>
   some (decide (c90.count = 0))
  else
   some false
 ) fun t12 =>
 if t12 = true then
  some ([], false)
 else
  Option.bind (slices_Clone_int_int l8) fun q17 =>
  Sh.cont (impl_checkedHeap_L2 l8 p0 N 0 []) (id) fun l24 =>
  Option.bind (impl_checkedHeap_L3 N p0 N 0 q17 l24) fun many30 =>
  some (l8, decide (many30 = (Sh.len p0)))
def impl_ValidHeap (N : Nat) (p0 : (List Cell)) : Option (Bool) :=
 Option.bind (impl_checkedHeap N p0) fun q3 =>
 some q3.2
def laws_eqIntS_L1 (p0 : (List Int)) (p1 : (List Int)) : Nat → Int → Option ((Bool) ⊕ (Unit))
 | 0, _ => none
 | n + 1, i10 =>
  if (decide (i10 < (Sh.len p0))) = true then
   Option.bind (Sh.get p0 i10) fun c18 =>
   Option.bind (Sh.get p1 i10) fun c19 =>
   if (!decide (c18 = c19)) = true then
    some (Sum.inl false)
   else
    laws_eqIntS_L1 p0 p1 n (Sh.w (i10 + 1))
  else
   some (Sum.inr ())
def laws_eqIntS (N : Nat) (p0 : (List Int)) (p1 : (List Int)) : Option (Bool) :=
 if (!decide ((Sh.len p0) = (Sh.len p1))) = true then
  some false
 else
  Sh.cont (laws_eqIntS_L1 p0 p1 N 0) (id) fun () =>
  some true
def laws_eqCell (N : Nat) (p0 : Cell) (p1 : Cell) : Option (Bool) :=
 if (!decide (p0.count = p1.count)) = true then
  some false
 else
 if (!decide (p0.tag = p1.tag)) = true then
  some false
 else
  Option.bind (laws_eqIntS N p0.fields p1.fields) fun q16 =>
  if (!q16) = true then
   some false
  else
   some true
def laws_eqCellS_L1 (N : Nat) (p0 : (List Cell)) (p1 : (List Cell)) : Nat → Int → Option ((Bool) ⊕ (Unit))
 | 0, _ => none
 | n + 1, i10 =>
  if (decide (i10 < (Sh.len p0))) = true then
   Option.bind (Sh.get p0 i10) fun c18 =>
   Option.bind (Sh.get p1 i10) fun c19 =>
   Option.bind (laws_eqCell N c18 c19) fun q20 =>
   if (!q20) = true then
    some (Sum.inl false)
   else
    laws_eqCellS_L1 N p0 p1 n (Sh.w (i10 + 1))
  else
   some (Sum.inr ())
def laws_eqCellS (N : Nat) (p0 : (List Cell)) (p1 : (List Cell)) : Option (Bool) :=
 if (!decide ((Sh.len p0) = (Sh.len p1))) = true then
  some false
 else
  Sh.cont (laws_eqCellS_L1 N p0 p1 N 0) (id) fun () =>
  some true
end RC

