import Derived.Test.YtkmgpbngemdmoaaEnc
import Derived.Test.YtkmgpbngemdmoaaHADefs
import Derived.Test.YtkmgpbngemdmoaaHBDefs
namespace RC

def laws_szLazy (N : Nat) (p0 : Lazy) (p1 : Int) : Option (Int) :=
  Option.bind (laws_szCellS N p0.cells p1) fun q3 =>
  if (decide (q3 < 0)) = true then
    some (-1)
  else
    Option.bind (laws_szIntS p0.pending q3) fun q9 =>
    if (decide (q9 < 0)) = true then
      some (-1)
    else
      some q9

def laws_toLazy (N : Nat) (p0 : Lazy) : Option (Lazy) :=
  Option.bind (laws_toCellS N p0.cells) fun q4 =>
  Option.bind (laws_toIntS N p0.pending) fun q6 =>
  some (Lazy.mk q4 q6)

def spec_isIn_L1 (p0 : (List Int)) (p1 : Int) : Nat → Int → Option ((Bool) ⊕ (Unit))
  | 0, _ => none
  | n + 1, i4 =>
    if (decide (i4 < (Sh.len p0))) = true then
      Option.bind (Sh.get p0 i4) fun c12 =>
      if (decide (c12 = p1)) = true then
        some (Sum.inl true)
      else
        spec_isIn_L1 p0 p1 n (Sh.w (i4 + 1))
    else
      some (Sum.inr ())

def spec_isIn (N : Nat) (p0 : (List Int)) (p1 : Int) : Option (Bool) :=
  Sh.cont (spec_isIn_L1 p0 p1 N 0) (id) fun () =>
  some false

def spec_validPending_L2 (p0 : Lazy) : Nat → Int → Option ((Bool) ⊕ (Unit))
  | 0, _ => none
  | n + 1, i8 =>
    if (decide (i8 < (Sh.len p0.cells))) = true then
      Option.bind (Sh.get p0.cells i8) fun c16 =>
      if (decide (c16.count < 0)) = true then
        some (Sum.inl false)
      else
        spec_validPending_L2 p0 n (Sh.w (i8 + 1))
    else
      some (Sum.inr ())

def spec_validPending_L1 (N : Nat) (p0 : Lazy) : Nat → Int → Option ((Bool) ⊕ (Unit))
  | 0, _ => none
  | n + 1, i4 =>
    if (decide (i4 < (Sh.len p0.pending))) = true then
      Option.bind (Sh.get p0.pending i4) fun c24 =>
      Option.bind (
        Option.bind (spec_inRange c24 0 (Sh.w ((Sh.len p0.cells) - 1))) fun q30 =>
        if (!q30) = true then
          some true
        else
          Option.bind (Sh.get p0.cells c24) fun c32 =>
          if (!decide (c32.count = 0)) = true then
            some true
          else
            Option.bind (Sh.sl p0.pending 0 i4) fun l34 =>
            Option.bind (spec_isIn N l34 c24) fun q35 =>
            some q35
      ) fun t26 =>
      if t26 = true then
        some (Sum.inl false)
      else
        spec_validPending_L1 N p0 n (Sh.w (i4 + 1))
    else
      some (Sum.inr ())

def spec_validPending (N : Nat) (p0 : Lazy) : Option (Bool) :=
  Sh.cont (spec_validPending_L1 N p0 N 0) (id) fun () =>
  Sh.cont (spec_validPending_L2 p0 N 0) (id) fun () =>
  some true

def spec_raised_L1 (p0 : Lazy) : Nat → Int → (List Cell) → Option ((List Cell))
  | 0, _, _ => none
  | n + 1, i6, l7 =>
    if (decide (i6 < (Sh.len p0.pending))) = true then
      Option.bind (Sh.get p0.pending i6) fun c15 =>
      Option.bind (Sh.get l7 c15) fun c16 =>
      spec_raised_L1 p0 n (Sh.w (i6 + 1)) (Sh.put l7 c15 (Cell.mk 1 c16.tag c16.fields))
    else
      some l7

def spec_raised (N : Nat) (p0 : Lazy) : Option ((List Cell)) :=
  Option.bind (spec_copyHeap N p0.cells) fun q3 =>
  Option.bind (spec_raised_L1 p0 N 0 q3) fun l8 =>
  some l8

def spec_validLazy_L1 (p0 : Lazy) (q10 : (List Int)) : Nat → Int → Option ((Bool) ⊕ (Unit))
  | 0, _ => none
  | n + 1, i13 =>
    if (decide (i13 < (Sh.len p0.pending))) = true then
      Option.bind (Sh.get p0.pending i13) fun c21 =>
      Option.bind (Sh.get q10 c21) fun c22 =>
      if (!decide (c22 = 0)) = true then
        some (Sum.inl false)
      else
        spec_validLazy_L1 p0 q10 n (Sh.w (i13 + 1))
    else
      some (Sum.inr ())

def spec_validLazy (N : Nat) (p0 : Lazy) : Option (Bool) :=
  Option.bind (
    Option.bind (spec_validPending N p0) fun q27 =>
    if (!q27) = true then
      some true
    else
      Option.bind (spec_raised N p0) fun q29 =>
      Option.bind (spec_validHeap N q29) fun q30 =>
      some (!q30)
  ) fun t4 =>
  if t4 = true then
    some false
  else
    Option.bind (spec_raised N p0) fun q9 =>
    Option.bind (spec_refsOf N q9) fun q10 =>
    Sh.cont (spec_validLazy_L1 p0 q10 N 0) (id) fun () =>
    some true

def spec_ValidLazy (N : Nat) (p0 : Lazy) : Option (Bool) :=
  Option.bind (spec_validLazy N p0) fun q3 =>
  some q3

def impl_checkedLazy_1 (s0_0 : (List Int)) (p0 : Int) : Option (Bool) :=
  Option.bind (Sh.get s0_0 p0) fun c3 =>
  some (decide (0 < c3))

def slices_IndexFunc_int_int_L1 (s0_0 : (List Int)) (p0 : (List Int)) : Nat → Int → Option ((Int) ⊕ (Unit))
  | 0, _ => none
  | n + 1, t4 =>
    if (decide (t4 < (Sh.len p0))) = true then
      Option.bind (Sh.get p0 t4) fun c13 =>
      Option.bind (impl_checkedLazy_1 s0_0 c13) fun q14 =>
      if q14 = true then
        some (Sum.inl t4)
      else
        slices_IndexFunc_int_int_L1 s0_0 p0 n (Sh.w (t4 + 1))
    else
      some (Sum.inr ())

def slices_IndexFunc_int_int (N : Nat) (s0_0 : (List Int)) (p0 : (List Int)) : Option (Int) :=
  Sh.cont (slices_IndexFunc_int_int_L1 s0_0 p0 N 0) (id) fun () =>
  some (-1)

def slices_ContainsFunc_int_int (N : Nat) (s0_0 : (List Int)) (p0 : (List Int)) : Option (Bool) :=
  Option.bind (slices_IndexFunc_int_int N s0_0 p0) fun q3 =>
  some (decide (0 ≤ q3))

def impl_checkedLazy_L2 (p0 : Lazy) : Nat → Int → (List Cell) → Option (((List Int) × Bool) ⊕ ((List Cell)))
  | 0, _, _ => none
  | n + 1, t10, l11 =>
    if (decide (t10 < (Sh.len p0.pending))) = true then
      Option.bind (Sh.get p0.pending t10) fun c30 =>
      Option.bind (
        if (decide (c30 < 0)) = true then
          some true
        else
        if (decide ((Sh.len l11) ≤ c30)) = true then
          some true
        else
          Option.bind (Sh.get l11 c30) fun c40 =>
          some (!decide (c40.count = 0))
      ) fun t33 =>
      if t33 = true then
        some (Sum.inl ([], false))
      else
        Option.bind (Sh.get l11 c30) fun c37 =>
        impl_checkedLazy_L2 p0 n (Sh.w (t10 + 1)) (Sh.put l11 c30 (Cell.mk 1 c37.tag c37.fields))
    else
      some (Sum.inr l11)

def impl_checkedLazy_L1 (q3 : (List Cell)) : Nat → Int → Option (((List Int) × Bool) ⊕ (Unit))
  | 0, _ => none
  | n + 1, t6 =>
    if (decide (t6 < (Sh.len q3))) = true then
      Option.bind (Sh.get q3 t6) fun c46 =>
      if (decide (c46.count < 0)) = true then
        some (Sum.inl ([], false))
      else
        impl_checkedLazy_L1 q3 n (Sh.w (t6 + 1))
    else
      some (Sum.inr ())

def impl_checkedLazy (N : Nat) (p0 : Lazy) : Option ((List Int) × Bool) :=
  Option.bind (slices_Clone_impl_Cell_impl_Cell p0.cells) fun q3 =>
  Sh.cont (impl_checkedLazy_L1 q3 N 0) (id) fun () =>
  Sh.cont (impl_checkedLazy_L2 p0 N 0 q3) (id) fun l12 =>
  Option.bind (impl_checkedHeap N l12) fun q15 =>
  Option.bind (
    if (!q15.2) = true then
      some true
    else
      Option.bind (slices_ContainsFunc_int_int N q15.1 p0.pending) fun q24 =>
      some q24
  ) fun t18 =>
  if t18 = true then
    some ([], false)
  else
    some (q15.1, true)

def impl_ValidLazy (N : Nat) (p0 : Lazy) : Option (Bool) :=
  Option.bind (impl_checkedLazy N p0) fun q3 =>
  some q3.2

def laws_eqLazy (N : Nat) (p0 : Lazy) (p1 : Lazy) : Option (Bool) :=
  Option.bind (laws_eqCellS N p0.cells p1.cells) fun q4 =>
  if (!q4) = true then
    some false
  else
    Option.bind (laws_eqIntS N p0.pending p1.pending) fun q11 =>
    if (!q11) = true then
      some false
    else
      some true

def laws_FnExactValidLazy (N : Nat) (p0 : Lazy) : Option (Bool) :=
  Option.bind (laws_szLazy N p0 1048576) fun q4 =>
  if (decide (q4 < 0)) = true then
    some true
  else
    Option.bind (laws_toLazy N p0) fun q10 =>
    Option.bind (spec_ValidLazy N q10) fun q11 =>
    Option.bind (laws_toLazy N p0) fun q13 =>
    Option.bind (impl_ValidLazy N q13) fun q15 =>
    if (q15 != q11) = true then
      some false
    else
      Option.bind (laws_toLazy N p0) fun q22 =>
      Option.bind (laws_eqLazy N q13 q22) fun q23 =>
      if (!q23) = true then
        some false
      else
        some true

end RC
