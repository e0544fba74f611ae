import Derived.Test.YtcpedchmkhlpnaaGEncToEncB
import Derived.Test.YtcpedchmkhlpnaaHADefs
namespace RC

def spec_newReader (p0 : (List Int)) : Option ((List Int) × Int) :=
  Option.bind (
    if (decide (2000 < (Sh.len p0))) = true then
      Option.bind (Sh.sl p0 0 2000) fun l8 =>
      some l8
    else
      some p0
  ) fun code3 =>
  some (code3, 0)

def spec_reader_pick (s0_0 : (List Int)) (s0_1 : Int) (p1 : Int) : Option (Int × Int) :=
  Option.bind (
    if (decide (p1 < 1)) = true then
      some true
    else
      some (decide ((Sh.len s0_0) = 0))
  ) fun t5 =>
  if t5 = true then
    some (0, Sh.w (s0_1 + 1))
  else
  if (decide ((Sh.w ((Sh.w (s0_1 + 1)) - 1)) < (Sh.len s0_0))) = true then
    Option.bind (Sh.get s0_0 (Sh.w ((Sh.w (s0_1 + 1)) - 1))) fun c14 =>
    Option.bind (Sh.rem (Sh.wk .i64 c14) p1) fun d15 =>
    some (d15, Sh.w (s0_1 + 1))
  else
    Option.bind (Sh.rem (Sh.w ((Sh.w (s0_1 + 1)) - 1)) (Sh.len s0_0)) fun d17 =>
    Option.bind (Sh.get s0_0 d17) fun c18 =>
    Option.bind (Sh.rem (Sh.w ((Sh.w ((Sh.w ((Sh.w (s0_1 + 1)) - 1)) * 7)) + 3)) (Sh.len s0_0)) fun d19 =>
    Option.bind (Sh.get s0_0 d19) fun c20 =>
    Option.bind (Sh.quo (Sh.w ((Sh.w (s0_1 + 1)) - 1)) (Sh.len s0_0)) fun d21 =>
    Option.bind (Sh.rem (Sh.xor (Sh.w ((Sh.w ((Sh.w ((Sh.w ((Sh.wk .i64 c18) * 131)) + (Sh.w ((Sh.wk .i64 c20) * 1117)))) + (Sh.w ((Sh.w ((Sh.w (s0_1 + 1)) - 1)) * 29)))) + (Sh.w (d21 * 53)))) (Sh.w (Int.tdiv (Sh.w ((Sh.w ((Sh.w ((Sh.w ((Sh.wk .i64 c18) * 131)) + (Sh.w ((Sh.wk .i64 c20) * 1117)))) + (Sh.w ((Sh.w ((Sh.w (s0_1 + 1)) - 1)) * 29)))) + (Sh.w (d21 * 53)))) 64))) p1) fun d24 =>
    some (d24, Sh.w (s0_1 + 1))

def spec_reader_one (s0_0 : (List Int)) (s0_1 : Int) (p1 : (List Int)) : Option (Int × Int) :=
  Option.bind (spec_reader_pick s0_0 s0_1 (Sh.len p1)) fun q3 =>
  Option.bind (Sh.get p1 q3.1) fun c4 =>
  some (c4, q3.2)

def spec_freeIndex_L1 (p0 : (List Cell)) : Nat → Int → Option ((Int) ⊕ (Unit))
  | 0, _ => none
  | n + 1, i4 =>
    if (decide (i4 < (Sh.len p0))) = true then
      Option.bind (Sh.get p0 i4) fun c12 =>
      if (decide (c12.count = 0)) = true then
        some (Sum.inl i4)
      else
        spec_freeIndex_L1 p0 n (Sh.w (i4 + 1))
    else
      some (Sum.inr ())

def spec_freeIndex (N : Nat) (p0 : (List Cell)) : Option (Int) :=
  Sh.cont (spec_freeIndex_L1 p0 N 0) (id) fun () =>
  some (Sh.len p0)

def spec_copyInts (p0 : (List Int)) : Option ((List Int)) :=
  Option.bind (Sh.app ([] : List Int) p0 8) fun l3 =>
  some l3

def spec_copyHeap_L1 (s0 : (List Cell)) : Nat → Int → (List Cell) → Option ((List Cell))
  | 0, _, _ => none
  | n + 1, i5, l6 =>
    if (decide (i5 < (Sh.len s0))) = true then
      Option.bind (Sh.get s0 i5) fun c14 =>
      Option.bind (spec_copyInts c14.fields) fun q15 =>
      Option.bind (Sh.app l6 [(Cell.mk c14.count c14.tag q15)] 40) fun l16 =>
      spec_copyHeap_L1 s0 n (Sh.w (i5 + 1)) l16
    else
      some l6

def spec_copyHeap (N : Nat) (s0 : (List Cell)) : Option ((List Cell)) :=
  Option.bind (spec_copyHeap_L1 s0 N 0 []) fun l7 =>
  some l7

def spec_place (s0 : (List Cell)) (p1 : Int) (p2 : Int) (p3 : (List Int)) : Option ((List Cell)) :=
  Option.bind (spec_copyInts p3) fun q3 =>
  if (decide (p1 = (Sh.len s0))) = true then
    Option.bind (Sh.app s0 [(Cell.mk 1 p2 q3)] 40) fun l8 =>
    some l8
  else
    Option.bind (Sh.get s0 p1) fun c10 =>
    some (Sh.put s0 p1 (Cell.mk 1 p2 q3))

def spec_AllocCell_L1 (s0 : (List Cell)) (p2 : (List Int)) : Nat → Int → Option (((List Cell) × Int) ⊕ (Unit))
  | 0, _ => none
  | n + 1, i13 =>
    if (decide (i13 < (Sh.len p2))) = true then
      Option.bind (Sh.get p2 i13) fun c31 =>
      Option.bind (spec_isWord s0 c31) fun q32 =>
      if (!q32) = true then
        some (Sum.inl ([], 0))
      else
        spec_AllocCell_L1 s0 p2 n (Sh.w (i13 + 1))
    else
      some (Sum.inr ())

def spec_AllocCell (N : Nat) (s0 : (List Cell)) (p1 : Int) (p2 : (List Int)) : Option ((List Cell) × Int) :=
  Option.bind (spec_validHeap N s0) fun q4 =>
  if (!q4) = true then
    some ([], 0)
  else
    Option.bind (spec_freeIndex N s0) fun q10 =>
    Sh.cont (spec_AllocCell_L1 s0 p2 N 0) (id) fun () =>
    Option.bind (spec_copyHeap N s0) fun q16 =>
    Option.bind (spec_place q16 q10 p1 p2) fun q17 =>
    Option.bind (spec_validHeap N q17) fun q20 =>
    if (!q20) = true then
      some ([], 0)
    else
      some (q17, Sh.w (1000 + q10))

def spec_trim_L1 (s0 : (List Cell)) : Nat → Int → Option (Int)
  | 0, _ => none
  | n + 1, n4 =>
    Option.bind (
      if (decide (0 < n4)) = true then
        Option.bind (Sh.get s0 (Sh.w (n4 - 1))) fun c15 =>
        some (decide (c15.count = 0))
      else
        some false
    ) fun t11 =>
    if t11 = true then
      spec_trim_L1 s0 n (Sh.w (n4 - 1))
    else
      some n4

def spec_trim (N : Nat) (s0 : (List Cell)) : Option ((List Cell)) :=
  Option.bind (spec_trim_L1 s0 N (Sh.len s0)) fun n5 =>
  Option.bind (Sh.hi s0 n5) fun l8 =>
  some l8

def spec_dropWords_L1  : Nat → (List Cell) → (List Int) → Option ((List Cell))
  | 0, _, _ => none
  | n + 1, l5, l6 =>
    if (decide (0 < (Sh.len l6))) = true then
      Option.bind (Sh.get l6 (Sh.w ((Sh.len l6) - 1))) fun c15 =>
      Option.bind (Sh.hi l6 (Sh.w ((Sh.len l6) - 1))) fun l17 =>
      Option.bind (spec_isPointer c15) fun q19 =>
      if q19 = true then
        Option.bind (Sh.get l5 (Sh.w (c15 - 1000))) fun c23 =>
        Option.bind (Sh.get (Sh.put l5 (Sh.w (c15 - 1000)) (Cell.mk (Sh.w (c23.count - 1)) c23.tag c23.fields)) (Sh.w (c15 - 1000))) fun c25 =>
        if (decide (c25.count = 0)) = true then
          Option.bind (Sh.app l17 c25.fields 8) fun l28 =>
          spec_dropWords_L1  n (Sh.put (Sh.put l5 (Sh.w (c15 - 1000)) (Cell.mk (Sh.w (c23.count - 1)) c23.tag c23.fields)) (Sh.w (c15 - 1000)) (Cell.mk 0 0 [])) l28
        else
          spec_dropWords_L1  n (Sh.put l5 (Sh.w (c15 - 1000)) (Cell.mk (Sh.w (c23.count - 1)) c23.tag c23.fields)) l17
      else
        spec_dropWords_L1  n l5 l17
    else
      some l5

def spec_dropWords (N : Nat) (s0 : (List Cell)) (p1 : (List Int)) : Option ((List Cell)) :=
  Option.bind (spec_copyInts p1) fun q3 =>
  Option.bind (spec_dropWords_L1  N s0 q3) fun l7 =>
  Option.bind (spec_trim N l7) fun q10 =>
  some q10

def spec_DropWord (N : Nat) (s0 : (List Cell)) (p1 : Int) : Option ((List Cell) × Bool) :=
  Option.bind (
    Option.bind (spec_validHeap N s0) fun q22 =>
    if (!q22) = true then
      some true
    else
      Option.bind (spec_isWord s0 p1) fun q24 =>
      some (!q24)
  ) fun t4 =>
  if t4 = true then
    some ([], false)
  else
    Option.bind (
      Option.bind (spec_isPointer p1) fun q17 =>
      if q17 = true then
        Option.bind (Sh.get s0 (Sh.w (p1 - 1000))) fun c19 =>
        Option.bind (spec_refsOf N s0) fun q20 =>
        Option.bind (Sh.get q20 (Sh.w (p1 - 1000))) fun c21 =>
        some (decide (c19.count = c21))
      else
        some false
    ) fun t10 =>
    if t10 = true then
      some ([], false)
    else
      Option.bind (spec_copyHeap N s0) fun q15 =>
      Option.bind (spec_dropWords N q15 [p1]) fun q16 =>
      some (q16, true)

def spec_zeros (p0 : Int) : Option ((List Int)) :=
  Option.bind (Sh.mk 0 p0 8) fun l3 =>
  some l3

def spec_goodHeap_L2 (N : Nat) (s0_0 : (List Int)) : Nat → Int → Int → (List Cell) → (List Int) → Option (Int × (List Cell) × (List Int))
  | 0, _, _, _, _ => none
  | n + 1, k38, f39, l40, l41 =>
    if (decide (0 < k38)) = true then
      Option.bind (spec_reader_pick s0_0 f39 20) fun q73 =>
      Option.bind (
        Option.bind (
          if (decide (0 < (Sh.len l40))) = true then
            Option.bind (spec_reader_pick s0_0 q73.2 3) fun q101 =>
            some (decide (0 < q101.1), q101.2)
          else
            some (false, q73.2)
        ) fun (t81, f82) =>
        if t81 = true then
          Option.bind (spec_reader_pick s0_0 f82 (Sh.len l40)) fun q86 =>
          Option.bind (Sh.get l40 q86.1) fun c88 =>
          if (decide (0 < c88.count)) = true then
            Option.bind (
              Option.bind (spec_refsOf N l40) fun q96 =>
              Option.bind (Sh.get q96 q86.1) fun c97 =>
              if (decide (c88.count = c97)) = true then
                some (true, q86.2)
              else
                Option.bind (spec_reader_pick s0_0 q86.2 2) fun q99 =>
                some (decide (q99.1 = 0), q99.2)
            ) fun (t92, f93) =>
            if t92 = true then
              some (Sh.w (1000 + q86.1), f93, Sh.put l40 q86.1 (Cell.mk (Sh.w (c88.count + 1)) c88.tag c88.fields))
            else
              some (Sh.w (1000 + q86.1), f93, l40)
          else
            some (Sh.w (q73.1 - 5), q86.2, l40)
        else
          some (Sh.w (q73.1 - 5), f82, l40)
      ) fun (w75, f76, l77) =>
      Option.bind (Sh.app l41 [w75] 8) fun l79 =>
      spec_goodHeap_L2 N s0_0 n (Sh.w (k38 - 1)) f76 l77 l79
    else
      some (f39, l40, l41)

def spec_goodHeap_L1 (N : Nat) (s0_0 : (List Int)) : Nat → Int → Int → (List Cell) → Option (Int × (List Cell))
  | 0, _, _, _ => none
  | n + 1, n6, f7, l8 =>
    if (decide (0 < n6)) = true then
      Option.bind (
        Option.bind (spec_reader_pick s0_0 f7 4) fun q37 =>
        Option.bind (spec_goodHeap_L2 N s0_0 N q37.1 q37.2 l8 []) fun (f42, l43, l44) =>
        Option.bind (spec_reader_pick s0_0 f42 7) fun q47 =>
        Option.bind (spec_reader_pick s0_0 q47.2 7) fun q48 =>
        Option.bind (spec_reader_one s0_0 q48.2 [q47.1, q48.1, 0, 99]) fun q49 =>
        Option.bind (spec_AllocCell N l43 q49.1 l44) fun q50 =>
        Option.bind (
          if (decide (0 < q50.2)) = true then
            some q50.1
          else
            some l43
        ) fun l52 =>
        Option.bind (
          if (decide (0 < (Sh.len l52))) = true then
            Option.bind (spec_reader_pick s0_0 q49.2 4) fun q65 =>
            some (decide (q65.1 = 0), q65.2)
          else
            some (false, q49.2)
        ) fun (t55, f56) =>
        if t55 = true then
          Option.bind (spec_reader_pick s0_0 f56 (Sh.len l52)) fun q60 =>
          Option.bind (spec_DropWord N l52 (Sh.w (1000 + q60.1))) fun q61 =>
          if q61.2 = true then
            some (q60.2, q61.1)
          else
            some (q60.2, l52)
        else
          some (f56, l52)
      ) fun (f31, l32) =>
      spec_goodHeap_L1 N s0_0 n (Sh.w (n6 - 1)) f31 l32
    else
      some (f7, l8)

def spec_goodHeap (N : Nat) (s0_0 : (List Int)) (s0_1 : Int) (p1 : Bool) : Option ((List Cell) × Int) :=
  Option.bind (spec_reader_pick s0_0 s0_1 14) fun q5 =>
  Option.bind (spec_goodHeap_L1 N s0_0 N (Sh.w (3 + q5.1)) q5.2 []) fun (f9, l10) =>
  Option.bind (
    Option.bind (
      if p1 = true then
        Option.bind (spec_reader_pick s0_0 f9 3) fun q26 =>
        some (decide (q26.1 = 0), q26.2)
      else
        some (false, f9)
    ) fun (t18, f19) =>
    if t18 = true then
      Option.bind (spec_reader_pick s0_0 f19 4) fun q22 =>
      Option.bind (spec_zeros q22.1) fun q23 =>
      Option.bind (Sh.app l10 [(Cell.mk (-1) 0 q23)] 40) fun l24 =>
      some (q22.2, l24)
    else
      some (f19, l10)
  ) fun (f13, l14) =>
  some (l14, f13)

def spec_reader_spoilInts (s0_0 : (List Int)) (s0_1 : Int) (p1 : (List Int)) : Option ((List Int) × Int) :=
  Option.bind (spec_copyInts p1) fun q3 =>
  Option.bind (
    if (decide (0 < (Sh.len q3))) = true then
      Option.bind (spec_reader_pick s0_0 s0_1 2) fun q19 =>
      some (decide (q19.1 = 0), q19.2)
    else
      some (false, s0_1)
  ) fun (t6, f7) =>
  if t6 = true then
    Option.bind (spec_reader_pick s0_0 f7 (Sh.len q3)) fun q11 =>
    Option.bind (spec_reader_one s0_0 q11.2 [0, 1, -1, 7, 1000, 1001]) fun q12 =>
    Option.bind (Sh.get q3 q11.1) fun c13 =>
    some (Sh.put q3 q11.1 q12.1, q12.2)
  else
    Option.bind (spec_reader_one s0_0 f7 [0, 1, 2, -1, 1000]) fun q16 =>
    Option.bind (Sh.app q3 [q16.1] 8) fun l17 =>
    some (l17, q16.2)

def spec_anyHeap (N : Nat) (s0_0 : (List Int)) (s0_1 : Int) : Option ((List Cell) × Int) :=
  Option.bind (spec_goodHeap N s0_0 s0_1 true) fun q3 =>
  if (decide ((Sh.len q3.1) = 0)) = true then
    some (q3.1, q3.2)
  else
    Option.bind (spec_reader_pick s0_0 q3.2 (Sh.len q3.1)) fun q9 =>
    Option.bind (
      Option.bind (spec_reader_pick s0_0 q9.2 24) fun q16 =>
      if (decide (q16.1 = 0)) = true then
        Option.bind (spec_reader_one s0_0 q16.2 [0, -1, -2, 1, 9, 1000000]) fun q19 =>
        Option.bind (Sh.get q3.1 q9.1) fun c20 =>
        some (q19.2, Sh.put q3.1 q9.1 (Cell.mk q19.1 c20.tag c20.fields))
      else
      if (decide (q16.1 = 1)) = true then
        Option.bind (spec_reader_one s0_0 q16.2 [-1, 100, 3, 0]) fun q23 =>
        Option.bind (Sh.get q3.1 q9.1) fun c24 =>
        some (q23.2, Sh.put q3.1 q9.1 (Cell.mk c24.count q23.1 c24.fields))
      else
      if (decide (q16.1 = 2)) = true then
        Option.bind (Sh.get q3.1 q9.1) fun c27 =>
        Option.bind (spec_reader_spoilInts s0_0 q16.2 c27.fields) fun q28 =>
        some (q28.2, Sh.put q3.1 q9.1 (Cell.mk c27.count c27.tag q28.1))
      else
      if (decide (q16.1 = 3)) = true then
        Option.bind (spec_reader_pick s0_0 q16.2 (Sh.len q3.1)) fun q31 =>
        Option.bind (Sh.get q3.1 q9.1) fun c32 =>
        some (q31.2, Sh.put q3.1 q9.1 (Cell.mk c32.count c32.tag [Sh.w (1000 + q31.1)]))
      else
      if (decide (q16.1 = 4)) = true then
        Option.bind (Sh.app q3.1 ([(Cell.mk 0 0 [])]) 40) fun l35 =>
        some (q16.2, l35)
      else
        some (q16.2, q3.1)
    ) fun (f11, l12) =>
    some (l12, f11)

def spec_DrawValidHeap (N : Nat) (p0 : (List Int)) : Option ((List Cell)) :=
  Option.bind (spec_newReader p0) fun q3 =>
  Option.bind (spec_anyHeap N q3.1 q3.2) fun q4 =>
  some q4.1

def laws_FnValidHeap_L1 (N : Nat) (q7 : (List Cell)) : Nat → Int → Option ((Bool) ⊕ (Unit))
  | 0, _ => none
  | n + 1, i19 =>
    if (decide (i19 < (Sh.len q7))) = true then
      Sh.cont (
        Option.bind (
          Option.bind (Sh.get q7 i19) fun c46 =>
          if (decide (0 < c46.count)) = true then
            some (decide (c46.count < 999999))
          else
            some false
        ) fun t32 =>
        if t32 = true then
          Option.bind (Sh.app ([] : List Cell) q7 40) fun l36 =>
          Option.bind (Sh.get q7 i19) fun c38 =>
          Option.bind (Sh.get l36 i19) fun c39 =>
          Option.bind (impl_ValidHeap N (Sh.put l36 i19 (Cell.mk (Sh.w (c38.count + 1)) c38.tag c38.fields))) fun q41 =>
          if (!q41) = true then
            some (Sum.inl (Sum.inl false))
          else
            some (Sum.inr ())
        else
          some (Sum.inr ())
      ) (id) fun () =>
      laws_FnValidHeap_L1 N q7 n (Sh.w (i19 + 1))
    else
      some (Sum.inr ())

def laws_FnValidHeap (N : Nat) (p0 : (List Int)) : Option (Bool) :=
  if (decide (1048576 < (Sh.len p0))) = true then
    some true
  else
    Option.bind (spec_DrawValidHeap N p0) fun q7 =>
    Option.bind (impl_ValidHeap N q7) fun q9 =>
    Option.bind (
      Option.bind (spec_ValidHeap N q7) fun q48 =>
      if (q9 != q48) = true then
        some true
      else
        some (!q9)
    ) fun t12 =>
    if t12 = true then
      Option.bind (spec_ValidHeap N q7) fun q16 =>
      some (q9 == q16)
    else
      Sh.cont (laws_FnValidHeap_L1 N q7 N 0) (id) fun () =>
      Option.bind (
        if (decide ((Sh.len q7) = 0)) = true then
          some true
        else
          Option.bind (Sh.get q7 (Sh.w ((Sh.len q7) - 1))) fun c25 =>
          some (!decide (c25.count = 0))
      ) fun t22 =>
      some t22

def spec_DrawRefsOf (N : Nat) (p0 : (List Int)) : Option ((List Cell) × Int) :=
  Option.bind (spec_newReader p0) fun q3 =>
  Option.bind (spec_anyHeap N q3.1 q3.2) fun q5 =>
  Option.bind (spec_reader_pick q3.1 q5.2 (if (Sh.len q5.1) > 1 then (Sh.len q5.1) else 1)) fun q7 =>
  Option.bind (spec_reader_pick q3.1 q7.2 (if (Sh.len q5.1) > 1 then (Sh.len q5.1) else 1)) fun q8 =>
  Option.bind (spec_reader_one q3.1 q8.2 [q7.1, q8.1, 0, Sh.len q5.1, -1]) fun q9 =>
  some (q5.1, q9.1)

def laws_FnRefsOf (N : Nat) (p0 : (List Int)) : Option (Bool) :=
  if (decide (1048576 < (Sh.len p0))) = true then
    some true
  else
    Option.bind (spec_DrawRefsOf N p0) fun q7 =>
    Option.bind (impl_RefsOf N q7.1 q7.2) fun q9 =>
    Option.bind (
      Option.bind (spec_RefsOf N q7.1 q7.2) fun q22 =>
      if (!decide (q9 = q22)) = true then
        some true
      else
        some (decide (q9 < 0))
    ) fun t12 =>
    if t12 = true then
      Option.bind (spec_RefsOf N q7.1 q7.2) fun q16 =>
      some (decide (q9 = q16))
    else
      Option.bind (
        Option.bind (Sh.get q7.1 q7.2) fun c20 =>
        if (decide (q9 ≤ c20.count)) = true then
          some (decide (0 < c20.count))
        else
          some false
      ) fun t18 =>
      some t18

def laws_FnRefsOfAll_L2 (i23 : Int) (q7 : (List Cell) × Int) : Nat → Int → Int → Option (Int)
  | 0, _, _ => none
  | n + 1, pointers36, k37 =>
    Option.bind (Sh.get q7.1 i23) fun c42 =>
    if (decide (k37 < (Sh.len c42.fields))) = true then
      Option.bind (
        Option.bind (Sh.get c42.fields k37) fun c48 =>
        if (decide (1000 ≤ c48)) = true then
          some (Sh.w (pointers36 + 1))
        else
          some pointers36
      ) fun pointers45 =>
      laws_FnRefsOfAll_L2 i23 q7 n pointers45 (Sh.w (k37 + 1))
    else
      some pointers36

def laws_FnRefsOfAll_L1 (N : Nat) (q7 : (List Cell) × Int) : Nat → Int → Int → Int → Option (Int × Int)
  | 0, _, _, _ => none
  | n + 1, n21, pointers22, i23 =>
    if (decide (i23 < (Sh.len q7.1))) = true then
      Option.bind (
        Option.bind (Sh.get q7.1 i23) fun c51 =>
        if (decide (0 < c51.count)) = true then
          Option.bind (impl_RefsOf N q7.1 i23) fun q53 =>
          some (Sh.w (n21 + q53))
        else
          some n21
      ) fun n33 =>
      Option.bind (laws_FnRefsOfAll_L2 i23 q7 N pointers22 0) fun pointers38 =>
      laws_FnRefsOfAll_L1 N q7 n n33 pointers38 (Sh.w (i23 + 1))
    else
      some (n21, pointers22)

def laws_FnRefsOfAll (N : Nat) (p0 : (List Int)) : Option (Bool) :=
  if (decide (1048576 < (Sh.len p0))) = true then
    some true
  else
    Option.bind (spec_DrawRefsOf N p0) fun q7 =>
    Option.bind (impl_RefsOf N q7.1 q7.2) fun q9 =>
    Option.bind (
      Option.bind (spec_RefsOf N q7.1 q7.2) fun q54 =>
      if (!decide (q9 = q54)) = true then
        some true
      else
        some (decide (q9 < 0))
    ) fun t12 =>
    if t12 = true then
      Option.bind (spec_RefsOf N q7.1 q7.2) fun q16 =>
      some (decide (q9 = q16))
    else
      Option.bind (laws_FnRefsOfAll_L1 N q7 N 0 0 0) fun (n24, pointers25) =>
      some (decide (n24 = pointers25))

def spec_DrawLiveCells (N : Nat) (p0 : (List Int)) : Option ((List Cell)) :=
  Option.bind (spec_newReader p0) fun q3 =>
  Option.bind (spec_anyHeap N q3.1 q3.2) fun q4 =>
  some q4.1

def impl_indicesOf_L1 (p0 : (List Bool)) : Nat → Int → (List Int) → Option ((List Int))
  | 0, _, _ => none
  | n + 1, t5, l6 =>
    if (decide (t5 < (Sh.len p0))) = true then
      Option.bind (
        Option.bind (Sh.get p0 t5) fun c17 =>
        if c17 = true then
          Option.bind (Sh.app l6 [t5] 8) fun l20 =>
          some l20
        else
          some l6
      ) fun l14 =>
      impl_indicesOf_L1 p0 n (Sh.w (t5 + 1)) l14
    else
      some l6

def impl_indicesOf (N : Nat) (p0 : (List Bool)) : Option ((List Int)) :=
  Option.bind (impl_indicesOf_L1 p0 N 0 []) fun l7 =>
  some l7

def impl_ReachOf_L1 (p0 : (List Cell)) : Nat → (List Bool) → (List Int) → Option ((List Bool))
  | 0, _, _ => none
  | n + 1, l14, l15 =>
    if (decide (0 < (Sh.len l15))) = true then
      Option.bind (Sh.get l15 (Sh.w ((Sh.len l15) - 1))) fun c24 =>
      Option.bind (impl_liveAt p0 c24) fun q25 =>
      Option.bind (Sh.hi l15 (Sh.w ((Sh.len l15) - 1))) fun l27 =>
      Option.bind (
        if q25.2 = true then
          Option.bind (Sh.get l14 q25.1) fun c37 =>
          some (!c37)
        else
          some false
      ) fun t29 =>
      if t29 = true then
        Option.bind (Sh.get l14 q25.1) fun c33 =>
        Option.bind (Sh.get p0 q25.1) fun c34 =>
        Option.bind (Sh.app l27 c34.fields 8) fun l35 =>
        impl_ReachOf_L1 p0 n (Sh.put l14 q25.1 true) l35
      else
        impl_ReachOf_L1 p0 n l14 l27
    else
      some l14

def impl_ReachOf (N : Nat) (p0 : (List Cell)) (p1 : (List Int)) : Option ((List Int)) :=
  Option.bind (impl_ValidHeap N p0) fun q4 =>
  if (!q4) = true then
    some []
  else
    Option.bind (Sh.mk false (Sh.len p0) 1) fun l10 =>
    Option.bind (slices_Clone_int_int p1) fun q12 =>
    Option.bind (impl_ReachOf_L1 p0 N l10 q12) fun l16 =>
    Option.bind (impl_indicesOf N l16) fun q19 =>
    some q19

def laws_liveIn_L1 (p0 : (List Cell)) : Nat → Int → (List Int) → Option ((List Int))
  | 0, _, _ => none
  | n + 1, i5, l6 =>
    if (decide (i5 < (Sh.len p0))) = true then
      Option.bind (
        Option.bind (Sh.get p0 i5) fun c17 =>
        if (decide (0 < c17.count)) = true then
          Option.bind (Sh.app l6 [i5] 8) fun l19 =>
          some l19
        else
          some l6
      ) fun l14 =>
      laws_liveIn_L1 p0 n (Sh.w (i5 + 1)) l14
    else
      some l6

def laws_liveIn (N : Nat) (p0 : (List Cell)) : Option ((List Int)) :=
  Option.bind (laws_liveIn_L1 p0 N 0 []) fun l7 =>
  some l7

def laws_FnLiveCells_L1 (q7 : (List Cell)) : Nat → Int → (List Int) → Option ((List Int))
  | 0, _, _ => none
  | n + 1, i20, l21 =>
    if (decide (i20 < (Sh.len q7))) = true then
      Option.bind (Sh.app l21 [Sh.w (1000 + i20)] 8) fun l34 =>
      laws_FnLiveCells_L1 q7 n (Sh.w (i20 + 1)) l34
    else
      some l21

def laws_FnLiveCells (N : Nat) (p0 : (List Int)) : Option (Bool) :=
  if (decide (1048576 < (Sh.len p0))) = true then
    some true
  else
    Option.bind (spec_DrawLiveCells N p0) fun q7 =>
    Option.bind (impl_LiveCells N q7) fun q9 =>
    Option.bind (
      Option.bind (spec_LiveCells N q7) fun q35 =>
      if (!decide (q9 = q35)) = true then
        some true
      else
        some (decide (q9 < 0))
    ) fun t12 =>
    if t12 = true then
      Option.bind (spec_LiveCells N q7) fun q16 =>
      some (decide (q9 = q16))
    else
      Option.bind (laws_FnLiveCells_L1 q7 N 0 []) fun l22 =>
      Option.bind (
        Option.bind (impl_ReachOf N q7 l22) fun q27 =>
        if (decide ((Sh.len q27) = q9)) = true then
          Option.bind (laws_liveIn N q7) fun q29 =>
          some (decide (q9 = (Sh.len q29)))
        else
          some false
      ) fun t25 =>
      some t25

def spec_wordFor (s0_0 : (List Int)) (s0_1 : Int) (p1 : Int) : Option (Int × Int) :=
  Option.bind (spec_reader_pick s0_0 s0_1 (if p1 > 1 then p1 else 1)) fun q3 =>
  Option.bind (spec_reader_pick s0_0 q3.2 (if p1 > 1 then p1 else 1)) fun q4 =>
  Option.bind (spec_reader_pick s0_0 q4.2 (if p1 > 1 then p1 else 1)) fun q5 =>
  Option.bind (spec_reader_pick s0_0 q5.2 30) fun q6 =>
  Option.bind (spec_reader_one s0_0 q6.2 [Sh.w (1000 + q3.1), Sh.w (1000 + q4.1), Sh.w (1000 + q5.1), Sh.w (q6.1 - 10), Sh.w (1000 + p1), 1000000, -1000, 5]) fun q7 =>
  some (q7.1, q7.2)

def spec_DrawAllocCell_L1 (q3 : (List Int) × Int) (q5 : (List Cell) × Int) : Nat → Int → Int → (List Int) → Option (Int × (List Int))
  | 0, _, _, _ => none
  | n + 1, n10, f11, l12 =>
    if (decide (0 < n10)) = true then
      Option.bind (spec_wordFor q3.1 f11 (Sh.len q5.1)) fun q22 =>
      Option.bind (Sh.app l12 [q22.1] 8) fun l23 =>
      spec_DrawAllocCell_L1 q3 q5 n (Sh.w (n10 - 1)) q22.2 l23
    else
      some (f11, l12)

def spec_DrawAllocCell (N : Nat) (p0 : (List Int)) : Option ((List Cell) × Int × (List Int)) :=
  Option.bind (spec_newReader p0) fun q3 =>
  Option.bind (spec_anyHeap N q3.1 q3.2) fun q5 =>
  Option.bind (spec_reader_one q3.1 q5.2 [2, 1, 3, 0, 2, 4]) fun q9 =>
  Option.bind (spec_DrawAllocCell_L1 q3 q5 N q9.1 q9.2 []) fun (f13, l14) =>
  Option.bind (spec_reader_one q3.1 f13 [1, 3, 0, 99, 2, 100, -1]) fun q17 =>
  some (q5.1, q17.1, l14)

def slices_Clone_impl_Cell_impl_Cell (p0 : (List Cell)) : Option ((List Cell)) :=
  Option.bind (Sh.app ([] : List Cell) p0 40) fun l6 =>
  some l6

def impl_cloneHeap_L1 (p0 : (List Cell)) : Nat → Int → (List Cell) → Option ((List Cell))
  | 0, _, _ => none
  | n + 1, t6, l7 =>
    if (decide (t6 < (Sh.len p0))) = true then
      Option.bind (Sh.get p0 t6) fun c16 =>
      Option.bind (slices_Clone_int_int c16.fields) fun q17 =>
      Option.bind (Sh.get l7 t6) fun c18 =>
      impl_cloneHeap_L1 p0 n (Sh.w (t6 + 1)) (Sh.put l7 t6 (Cell.mk c18.count c18.tag q17))
    else
      some l7

def impl_cloneHeap (N : Nat) (p0 : (List Cell)) : Option ((List Cell)) :=
  Option.bind (slices_Clone_impl_Cell_impl_Cell p0) fun q3 =>
  Option.bind (impl_cloneHeap_L1 p0 N 0 q3) fun l8 =>
  some l8

def impl_heap_alloc_1 (p0 : Cell) : Option (Bool) :=
  some (decide (p0.count = 0))

def slices_IndexFunc_impl_heap_impl_Cell_L1 (p0 : (List Cell)) : Nat → Int → Option ((Int) ⊕ (Unit))
  | 0, _ => none
  | n + 1, t4 =>
    if (decide (t4 < (Sh.len p0))) = true then
      Option.bind (Sh.get p0 t4) fun c13 =>
      Option.bind (impl_heap_alloc_1 c13) fun q14 =>
      if q14 = true then
        some (Sum.inl t4)
      else
        slices_IndexFunc_impl_heap_impl_Cell_L1 p0 n (Sh.w (t4 + 1))
    else
      some (Sum.inr ())

def slices_IndexFunc_impl_heap_impl_Cell (N : Nat) (p0 : (List Cell)) : Option (Int) :=
  Sh.cont (slices_IndexFunc_impl_heap_impl_Cell_L1 p0 N 0) (id) fun () =>
  some (-1)

def impl_heap_alloc (N : Nat) (s1 : (List Cell)) (p1 : Int) (p2 : (List Int)) : Option (Int × (List Cell)) :=
  Option.bind (slices_Clone_int_int p2) fun q3 =>
  Option.bind (slices_IndexFunc_impl_heap_impl_Cell N s1) fun q5 =>
  Option.bind (
    if (decide (q5 < 0)) = true then
      Option.bind (Sh.app s1 [(Cell.mk 1 p1 q3)] 40) fun l14 =>
      some (Sh.len s1, l14)
    else
      Option.bind (Sh.get s1 q5) fun c17 =>
      some (q5, Sh.put s1 q5 (Cell.mk 1 p1 q3))
  ) fun (at7, l8) =>
  some (Sh.w (1000 + at7), l8)

def impl_AllocCell (N : Nat) (p0 : (List Cell)) (p1 : Int) (p2 : (List Int)) : Option ((List Cell) × Int) :=
  Option.bind (impl_ValidHeap N p0) fun q4 =>
  if (!q4) = true then
    some ([], 0)
  else
    Option.bind (impl_cloneHeap N p0) fun q10 =>
    Option.bind (impl_heap_alloc N q10 p1 p2) fun q12 =>
    Option.bind (impl_ValidHeap N q12.2) fun q15 =>
    if (!q15) = true then
      some ([], 0)
    else
      some (q12.2, q12.1)

def laws_equalInts_L1 (p0 : (List Int)) (p1 : (List Int)) : Nat → Int → Option ((Bool) ⊕ (Unit))
  | 0, _ => none
  | n + 1, i10 =>
    if (decide (i10 < (Sh.len p0))) = true then
      Option.bind (Sh.get p0 i10) fun c18 =>
      Option.bind (Sh.get p1 i10) fun c19 =>
      if (!decide (c18 = c19)) = true then
        some (Sum.inl false)
      else
        laws_equalInts_L1 p0 p1 n (Sh.w (i10 + 1))
    else
      some (Sum.inr ())

def laws_equalInts (N : Nat) (p0 : (List Int)) (p1 : (List Int)) : Option (Bool) :=
  if (!decide ((Sh.len p0) = (Sh.len p1))) = true then
    some false
  else
    Sh.cont (laws_equalInts_L1 p0 p1 N 0) (id) fun () =>
    some true

def laws_equalCell (N : Nat) (p0 : Cell) (p1 : Cell) : Option (Bool) :=
  Option.bind (
    if (decide (p0.count = p1.count)) = true then
      if (decide (p0.tag = p1.tag)) = true then
        Option.bind (laws_equalInts N p0.fields p1.fields) fun q7 =>
        some q7
      else
        some false
    else
      some false
  ) fun t3 =>
  some t3

def laws_equalHeap_L1 (N : Nat) (p0 : (List Cell)) (p1 : (List Cell)) : Nat → Int → Option ((Bool) ⊕ (Unit))
  | 0, _ => none
  | n + 1, i10 =>
    if (decide (i10 < (Sh.len p0))) = true then
      Option.bind (Sh.get p0 i10) fun c18 =>
      Option.bind (Sh.get p1 i10) fun c19 =>
      Option.bind (laws_equalCell N c18 c19) fun q20 =>
      if (!q20) = true then
        some (Sum.inl false)
      else
        laws_equalHeap_L1 N p0 p1 n (Sh.w (i10 + 1))
    else
      some (Sum.inr ())

def laws_equalHeap (N : Nat) (p0 : (List Cell)) (p1 : (List Cell)) : Option (Bool) :=
  if (!decide ((Sh.len p0) = (Sh.len p1))) = true then
    some false
  else
    Sh.cont (laws_equalHeap_L1 N p0 p1 N 0) (id) fun () =>
    some true

def laws_FnAllocCellFirst_L1 (q7 : (List Cell) × Int × (List Int)) (q9 : (List Cell) × Int) : Nat → Bool → Int → Option ((Bool) ⊕ (Bool))
  | 0, _, _ => none
  | n + 1, free26, i27 =>
    if (decide (i27 < (Sh.len q7.1))) = true then
      Sh.cont (
        Option.bind (
          Option.bind (Sh.get q7.1 i27) fun c49 =>
          if (decide (c49.count = 0)) = true then
            some (decide (i27 < (Sh.w (q9.2 - 1000))))
          else
            some false
        ) fun t43 =>
        if t43 = true then
          some (Sum.inl (Sum.inl false))
        else
        if free26 = true then
          some (Sum.inr true)
        else
          Option.bind (Sh.get q7.1 i27) fun c48 =>
          some (Sum.inr (decide (c48.count = 0)))
      ) (id) fun free39 =>
      laws_FnAllocCellFirst_L1 q7 q9 n free39 (Sh.w (i27 + 1))
    else
      some (Sum.inr free26)

def laws_FnAllocCellFirst (N : Nat) (p0 : (List Int)) : Option (Bool) :=
  if (decide (1048576 < (Sh.len p0))) = true then
    some true
  else
    Option.bind (spec_DrawAllocCell N p0) fun q7 =>
    Option.bind (impl_AllocCell N q7.1 q7.2.1 q7.2.2) fun q9 =>
    Option.bind (spec_AllocCell N q7.1 q7.2.1 q7.2.2) fun q11 =>
    Option.bind (
      Option.bind (laws_equalHeap N q9.1 q11.1) fun q51 =>
      if (!q51) = true then
        some true
      else
      if (!decide (q9.2 = q11.2)) = true then
        some true
      else
        some (decide (q9.2 = 0))
    ) fun t14 =>
    if t14 = true then
      Option.bind (
        Option.bind (laws_equalHeap N q9.1 q11.1) fun q20 =>
        if q20 = true then
          some (decide (q9.2 = q11.2))
        else
          some false
      ) fun t18 =>
      some t18
    else
      Sh.cont (laws_FnAllocCellFirst_L1 q7 q9 N false 0) (id) fun free28 =>
      Option.bind (
        if (free28 == (decide ((Sh.len q9.1) = (Sh.len q7.1)))) = true then
          if free28 = true then
            some true
          else
            some (decide ((Sh.len q9.1) = (Sh.w ((Sh.len q7.1) + 1))))
        else
          some false
      ) fun t31 =>
      some t31

def spec_DrawDupWord (N : Nat) (p0 : (List Int)) : Option ((List Cell) × Int) :=
  Option.bind (spec_newReader p0) fun q3 =>
  Option.bind (spec_anyHeap N q3.1 q3.2) fun q5 =>
  Option.bind (spec_wordFor q3.1 q5.2 (Sh.len q5.1)) fun q7 =>
  some (q5.1, q7.1)

def spec_DrawDropWord (N : Nat) (p0 : (List Int)) : Option ((List Cell) × Int) :=
  Option.bind (spec_DrawDupWord N p0) fun q3 =>
  some (q3.1, q3.2)

def impl_heap_trim_L1 (s1 : (List Cell)) : Nat → Int → Option (Int)
  | 0, _ => none
  | n + 1, n3 =>
    Option.bind (
      if (decide (0 < n3)) = true then
        Option.bind (Sh.get s1 (Sh.w (n3 - 1))) fun c13 =>
        some (decide (c13.count = 0))
      else
        some false
    ) fun t9 =>
    if t9 = true then
      impl_heap_trim_L1 s1 n (Sh.w (n3 - 1))
    else
      some n3

def impl_heap_trim (N : Nat) (s1 : (List Cell)) : Option ((List Cell)) :=
  Option.bind (impl_heap_trim_L1 s1 N (Sh.len s1)) fun n4 =>
  Option.bind (Sh.hi s1 n4) fun l6 =>
  some l6

def impl_heap_drop_L1  : Nat → (List Cell) → (List Int) → Option ((List Cell))
  | 0, _, _ => none
  | n + 1, l3, l4 =>
    if (decide (0 < (Sh.len l4))) = true then
      Option.bind (Sh.get l4 (Sh.w ((Sh.len l4) - 1))) fun c12 =>
      Option.bind (impl_liveAt l3 c12) fun q13 =>
      Option.bind (Sh.hi l4 (Sh.w ((Sh.len l4) - 1))) fun l15 =>
      if (!q13.2) = true then
        impl_heap_drop_L1  n l3 l15
      else
        Option.bind (Sh.get l3 q13.1) fun c22 =>
        Option.bind (Sh.get (Sh.put l3 q13.1 (Cell.mk (Sh.w (c22.count - 1)) c22.tag c22.fields)) q13.1) fun c24 =>
        if (decide (c24.count = 0)) = true then
          Option.bind (Sh.app l15 c24.fields 8) fun l27 =>
          impl_heap_drop_L1  n (Sh.put (Sh.put l3 q13.1 (Cell.mk (Sh.w (c22.count - 1)) c22.tag c22.fields)) q13.1 (Cell.mk 0 0 [])) l27
        else
          impl_heap_drop_L1  n (Sh.put l3 q13.1 (Cell.mk (Sh.w (c22.count - 1)) c22.tag c22.fields)) l15
    else
      some l3

def impl_heap_drop (N : Nat) (s1 : (List Cell)) (p1 : Int) : Option ((List Cell)) :=
  Option.bind (impl_heap_drop_L1  N s1 [p1]) fun l5 =>
  Option.bind (impl_heap_trim N l5) fun q7 =>
  some q7

def impl_DropWord (N : Nat) (p0 : (List Cell)) (p1 : Int) : Option ((List Cell) × Bool) :=
  Option.bind (impl_checkedHeap N p0) fun q3 =>
  Option.bind (
    if (!q3.2) = true then
      some true
    else
      Option.bind (impl_wordValid p0 p1) fun q28 =>
      some (!q28)
  ) fun t6 =>
  if t6 = true then
    some ([], false)
  else
    Option.bind (impl_cloneHeap N p0) fun q11 =>
    Sh.cont (
      Option.bind (impl_liveAt p0 p1) fun q17 =>
      if q17.2 = true then
        Option.bind (Sh.get p0 q17.1) fun c22 =>
        Option.bind (Sh.get q3.1 q17.1) fun c23 =>
        if (decide (c22.count = c23)) = true then
          some (Sum.inl ([], false))
        else
          Option.bind (impl_heap_drop N q11 p1) fun q26 =>
          some (Sum.inr q26)
      else
        some (Sum.inr q11)
    ) (id) fun l13 =>
    some (l13, true)

def laws_FnDropWordOrder_L1 (N : Nat) (q7 : (List Cell) × Int) (q9 : (List Cell) × Bool) : Nat → Int → Option ((Bool) ⊕ (Unit))
  | 0, _ => none
  | n + 1, i24 =>
    if (decide (i24 < (Sh.len q7.1))) = true then
      Option.bind (impl_DropWord N q9.1 (Sh.w (1000 + i24))) fun q33 =>
      Option.bind (impl_DropWord N q7.1 (Sh.w (1000 + i24))) fun q35 =>
      Option.bind (impl_DropWord N q35.1 q7.2) fun q37 =>
      Option.bind (
        if q33.2 = true then
          if q35.2 = true then
            if q37.2 = true then
              Option.bind (laws_equalHeap N q33.1 q37.1) fun q46 =>
              some (!q46)
            else
              some false
          else
            some false
        else
          some false
      ) fun t39 =>
      if t39 = true then
        some (Sum.inl false)
      else
        laws_FnDropWordOrder_L1 N q7 q9 n (Sh.w (i24 + 1))
    else
      some (Sum.inr ())

def laws_FnDropWordOrder (N : Nat) (p0 : (List Int)) : Option (Bool) :=
  if (decide (1048576 < (Sh.len p0))) = true then
    some true
  else
    Option.bind (spec_DrawDropWord N p0) fun q7 =>
    Option.bind (impl_DropWord N q7.1 q7.2) fun q9 =>
    Option.bind (spec_DropWord N q7.1 q7.2) fun q11 =>
    Option.bind (
      Option.bind (laws_equalHeap N q9.1 q11.1) fun q47 =>
      if (!q47) = true then
        some true
      else
      if (q9.2 != q11.2) = true then
        some true
      else
        some (!q9.2)
    ) fun t14 =>
    if t14 = true then
      Option.bind (
        Option.bind (laws_equalHeap N q9.1 q11.1) fun q20 =>
        if q20 = true then
          some (q9.2 == q11.2)
        else
          some false
      ) fun t18 =>
      some t18
    else
      Sh.cont (laws_FnDropWordOrder_L1 N q7 q9 N 0) (id) fun () =>
      some true

def laws_outer (N : Nat) (p0 : (List Cell)) (p1 : Int) : Option (Int) :=
  Option.bind (Sh.get p0 p1) fun c3 =>
  Option.bind (impl_RefsOf N p0 p1) fun q4 =>
  some (Sh.w (c3.count - q4))

def laws_FnDropWordOuter_L1 (N : Nat) (q7 : (List Cell) × Int) (q9 : (List Cell) × Bool) : Nat → Int → Option ((Bool) ⊕ (Unit))
  | 0, _ => none
  | n + 1, i24 =>
    if (decide (i24 < (Sh.len q7.1))) = true then
      Sh.cont (
        Option.bind (Sh.get q7.1 i24) fun c33 =>
        if (decide (0 < c33.count)) = true then
          Option.bind (laws_outer N q7.1 i24) fun q36 =>
          Option.bind (
            if (decide (q7.2 = (Sh.w (1000 + i24)))) = true then
              some (Sh.w (q36 - 1))
            else
              some q36
          ) fun want38 =>
          Option.bind (
            Option.bind (
              if (decide (i24 < (Sh.len q9.1))) = true then
                Option.bind (Sh.get q9.1 i24) fun c55 =>
                some (decide (0 < c55.count))
              else
                some false
            ) fun t50 =>
            if t50 = true then
              Option.bind (laws_outer N q9.1 i24) fun q53 =>
              some q53
            else
              some 0
          ) fun now42 =>
          if (!decide (now42 = want38)) = true then
            some (Sum.inl (Sum.inl false))
          else
            some (Sum.inr ())
        else
          some (Sum.inr ())
      ) (id) fun () =>
      laws_FnDropWordOuter_L1 N q7 q9 n (Sh.w (i24 + 1))
    else
      some (Sum.inr ())

def laws_FnDropWordOuter (N : Nat) (p0 : (List Int)) : Option (Bool) :=
  if (decide (1048576 < (Sh.len p0))) = true then
    some true
  else
    Option.bind (spec_DrawDropWord N p0) fun q7 =>
    Option.bind (impl_DropWord N q7.1 q7.2) fun q9 =>
    Option.bind (spec_DropWord N q7.1 q7.2) fun q11 =>
    Option.bind (
      Option.bind (laws_equalHeap N q9.1 q11.1) fun q58 =>
      if (!q58) = true then
        some true
      else
      if (q9.2 != q11.2) = true then
        some true
      else
        some (!q9.2)
    ) fun t14 =>
    if t14 = true then
      Option.bind (
        Option.bind (laws_equalHeap N q9.1 q11.1) fun q20 =>
        if q20 = true then
          some (q9.2 == q11.2)
        else
          some false
      ) fun t18 =>
      some t18
    else
      Sh.cont (laws_FnDropWordOuter_L1 N q7 q9 N 0) (id) fun () =>
      some true

def spec_DrawReachOf_L1 (q3 : (List Int) × Int) (q5 : (List Cell) × Int) : Nat → Int → Int → (List Int) → Option ((List Int))
  | 0, _, _, _ => none
  | n + 1, n10, f11, l12 =>
    if (decide (0 < n10)) = true then
      Option.bind (spec_wordFor q3.1 f11 (Sh.len q5.1)) fun q20 =>
      Option.bind (Sh.app l12 [q20.1] 8) fun l21 =>
      spec_DrawReachOf_L1 q3 q5 n (Sh.w (n10 - 1)) q20.2 l21
    else
      some l12

def spec_DrawReachOf (N : Nat) (p0 : (List Int)) : Option ((List Cell) × (List Int)) :=
  Option.bind (spec_newReader p0) fun q3 =>
  Option.bind (spec_anyHeap N q3.1 q3.2) fun q5 =>
  Option.bind (spec_reader_pick q3.1 q5.2 4) fun q9 =>
  Option.bind (spec_DrawReachOf_L1 q3 q5 N q9.1 q9.2 []) fun l13 =>
  some (q5.1, l13)

def spec_reachOf_L2 (l9 : (List Bool)) (p0 : (List Cell)) : Nat → Int → (List Int) → Option ((List Int))
  | 0, _, _ => none
  | n + 1, i14, l15 =>
    if (decide (i14 < (Sh.len p0))) = true then
      Option.bind (
        Option.bind (Sh.get l9 i14) fun c26 =>
        if c26 = true then
          Option.bind (Sh.app l15 [i14] 8) fun l28 =>
          some l28
        else
          some l15
      ) fun l23 =>
      spec_reachOf_L2 l9 p0 n (Sh.w (i14 + 1)) l23
    else
      some l15

def spec_reachOf_L1 (p0 : (List Cell)) : Nat → (List Bool) → (List Int) → Option ((List Bool))
  | 0, _, _ => none
  | n + 1, l7, l8 =>
    if (decide (0 < (Sh.len l8))) = true then
      Option.bind (Sh.get l8 (Sh.w ((Sh.len l8) - 1))) fun c33 =>
      Option.bind (Sh.hi l8 (Sh.w ((Sh.len l8) - 1))) fun l35 =>
      Option.bind (
        Option.bind (spec_isLive p0 c33) fun q44 =>
        if q44 = true then
          Option.bind (Sh.get l7 (Sh.w (c33 - 1000))) fun c46 =>
          some (!c46)
        else
          some false
      ) fun t37 =>
      if t37 = true then
        Option.bind (Sh.get l7 (Sh.w (c33 - 1000))) fun c41 =>
        Option.bind (Sh.get p0 (Sh.w (c33 - 1000))) fun c42 =>
        Option.bind (Sh.app l35 c42.fields 8) fun l43 =>
        spec_reachOf_L1 p0 n (Sh.put l7 (Sh.w (c33 - 1000)) true) l43
      else
        spec_reachOf_L1 p0 n l7 l35
    else
      some l7

def spec_reachOf (N : Nat) (p0 : (List Cell)) (p1 : (List Int)) : Option ((List Int)) :=
  Option.bind (Sh.mk false (Sh.len p0) 1) fun l3 =>
  Option.bind (spec_copyInts p1) fun q5 =>
  Option.bind (spec_reachOf_L1 p0 N l3 q5) fun l9 =>
  Option.bind (spec_reachOf_L2 l9 p0 N 0 []) fun l16 =>
  some l16

def spec_ReachOf (N : Nat) (p0 : (List Cell)) (p1 : (List Int)) : Option ((List Int)) :=
  Option.bind (spec_validHeap N p0) fun q4 =>
  if (!q4) = true then
    some []
  else
    Option.bind (spec_reachOf N p0 p1) fun q10 =>
    some q10

def laws_isIn_L1 (p0 : (List Int)) (p1 : Int) : Nat → Int → Option ((Bool) ⊕ (Unit))
  | 0, _ => none
  | n + 1, i4 =>
    if (decide (i4 < (Sh.len p0))) = true then
      Option.bind (Sh.get p0 i4) fun c12 =>
      if (decide (c12 = p1)) = true then
        some (Sum.inl true)
      else
        laws_isIn_L1 p0 p1 n (Sh.w (i4 + 1))
    else
      some (Sum.inr ())

def laws_isIn (N : Nat) (p0 : (List Int)) (p1 : Int) : Option (Bool) :=
  Sh.cont (laws_isIn_L1 p0 p1 N 0) (id) fun () =>
  some false

def laws_ascends_L1 (p0 : (List Int)) : Nat → Int → Option ((Bool) ⊕ (Unit))
  | 0, _ => none
  | n + 1, i4 =>
    if (decide (i4 < (Sh.len p0))) = true then
      Option.bind (Sh.get p0 i4) fun c12 =>
      Option.bind (Sh.get p0 (Sh.w (i4 - 1))) fun c13 =>
      if (decide (c12 ≤ c13)) = true then
        some (Sum.inl false)
      else
        laws_ascends_L1 p0 n (Sh.w (i4 + 1))
    else
      some (Sum.inr ())

def laws_ascends (N : Nat) (p0 : (List Int)) : Option (Bool) :=
  Sh.cont (laws_ascends_L1 p0 N 1) (id) fun () =>
  some true

def laws_FnReachOf_L2 (N : Nat) (c30 : Cell) (q9 : (List Int)) : Nat → Int → Option ((Bool) ⊕ (Unit))
  | 0, _ => none
  | n + 1, k36 =>
    if (decide (k36 < (Sh.len c30.fields))) = true then
      Option.bind (
        Option.bind (Sh.get c30.fields k36) fun c47 =>
        if (decide (1000 ≤ c47)) = true then
          Option.bind (laws_isIn N q9 (Sh.w (c47 - 1000))) fun q49 =>
          some (!q49)
        else
          some false
      ) fun t43 =>
      if t43 = true then
        some (Sum.inl false)
      else
        laws_FnReachOf_L2 N c30 q9 n (Sh.w (k36 + 1))
    else
      some (Sum.inr ())

def laws_FnReachOf_L1 (N : Nat) (q7 : (List Cell) × (List Int)) (q9 : (List Int)) : Nat → Int → Option ((Bool) ⊕ (Unit))
  | 0, _ => none
  | n + 1, i20 =>
    if (decide (i20 < (Sh.len q9))) = true then
      Option.bind (Sh.get q9 i20) fun c29 =>
      Option.bind (Sh.get q7.1 c29) fun c30 =>
      if (decide (c30.count < 1)) = true then
        some (Sum.inl false)
      else
        Sh.cont (laws_FnReachOf_L2 N c30 q9 N 0) (fun x => Sum.inl x) fun () =>
        laws_FnReachOf_L1 N q7 q9 n (Sh.w (i20 + 1))
    else
      some (Sum.inr ())

def laws_FnReachOf (N : Nat) (p0 : (List Int)) : Option (Bool) :=
  if (decide (1048576 < (Sh.len p0))) = true then
    some true
  else
    Option.bind (spec_DrawReachOf N p0) fun q7 =>
    Option.bind (impl_ReachOf N q7.1 q7.2) fun q9 =>
    Option.bind (
      Option.bind (spec_ReachOf N q7.1 q7.2) fun q50 =>
      Option.bind (laws_equalInts N q9 q50) fun q51 =>
      if (!q51) = true then
        some true
      else
        some (decide ((Sh.len q9) = 0))
    ) fun t12 =>
    if t12 = true then
      Option.bind (spec_ReachOf N q7.1 q7.2) fun q16 =>
      Option.bind (laws_equalInts N q9 q16) fun q17 =>
      some q17
    else
      Sh.cont (laws_FnReachOf_L1 N q7 q9 N 0) (id) fun () =>
      Option.bind (laws_ascends N q9) fun q23 =>
      some q23

def laws_FnAllocCell_L1 (N : Nat) (q7 : (List Cell) × Int × (List Int)) (q9 : (List Cell) × Int) : Nat → Int → Option ((Bool) ⊕ (Unit))
  | 0, _ => none
  | n + 1, i25 =>
    if (decide (i25 < (Sh.len q7.1))) = true then
      Option.bind (
        if (!decide (i25 = (Sh.w (q9.2 - 1000)))) = true then
          Option.bind (Sh.get q9.1 i25) fun c47 =>
          Option.bind (Sh.get q7.1 i25) fun c48 =>
          Option.bind (laws_equalCell N c47 c48) fun q49 =>
          some (!q49)
        else
          some false
      ) fun t42 =>
      if t42 = true then
        some (Sum.inl false)
      else
        laws_FnAllocCell_L1 N q7 q9 n (Sh.w (i25 + 1))
    else
      some (Sum.inr ())

def laws_FnAllocCell (N : Nat) (p0 : (List Int)) : Option (Bool) :=
  if (decide (1048576 < (Sh.len p0))) = true then
    some true
  else
    Option.bind (spec_DrawAllocCell N p0) fun q7 =>
    Option.bind (impl_AllocCell N q7.1 q7.2.1 q7.2.2) fun q9 =>
    Option.bind (spec_AllocCell N q7.1 q7.2.1 q7.2.2) fun q11 =>
    Option.bind (
      Option.bind (laws_equalHeap N q9.1 q11.1) fun q50 =>
      if (!q50) = true then
        some true
      else
      if (!decide (q9.2 = q11.2)) = true then
        some true
      else
        some (decide (q9.2 = 0))
    ) fun t14 =>
    if t14 = true then
      Option.bind (
        Option.bind (laws_equalHeap N q9.1 q11.1) fun q20 =>
        if q20 = true then
          some (decide (q9.2 = q11.2))
        else
          some false
      ) fun t18 =>
      some t18
    else
      Sh.cont (laws_FnAllocCell_L1 N q7 q9 N 0) (id) fun () =>
      Option.bind (
        Option.bind (impl_ValidHeap N q9.1) fun q30 =>
        if q30 = true then
          Option.bind (Sh.get q9.1 (Sh.w (q9.2 - 1000))) fun c32 =>
          Option.bind (laws_equalCell N c32 (Cell.mk 1 q7.2.1 q7.2.2)) fun q33 =>
          if q33 = true then
            Option.bind (impl_LiveCells N q9.1) fun q35 =>
            Option.bind (impl_LiveCells N q7.1) fun q36 =>
            some (decide (q35 = (Sh.w (q36 + 1))))
          else
            some false
        else
          some false
      ) fun t28 =>
      some t28

def impl_DupWord (N : Nat) (p0 : (List Cell)) (p1 : Int) : Option ((List Cell) × Bool) :=
  Option.bind (
    Option.bind (impl_ValidHeap N p0) fun q23 =>
    if (!q23) = true then
      some true
    else
      Option.bind (impl_wordValid p0 p1) fun q25 =>
      some (!q25)
  ) fun t4 =>
  if t4 = true then
    some ([], false)
  else
    Option.bind (impl_cloneHeap N p0) fun q9 =>
    Sh.cont (
      Option.bind (impl_liveAt p0 p1) fun q15 =>
      if q15.2 = true then
        Option.bind (Sh.get q9 q15.1) fun c20 =>
        if (decide (c20.count = 999999)) = true then
          some (Sum.inl ([], false))
        else
          some (Sum.inr (Sh.put q9 q15.1 (Cell.mk (Sh.w (c20.count + 1)) c20.tag c20.fields)))
      else
        some (Sum.inr q9)
    ) (id) fun l11 =>
    some (l11, true)

def spec_DupWord (N : Nat) (p0 : (List Cell)) (p1 : Int) : Option ((List Cell) × Bool) :=
  Option.bind (
    Option.bind (spec_validHeap N p0) fun q23 =>
    if (!q23) = true then
      some true
    else
      Option.bind (spec_isWord p0 p1) fun q25 =>
      some (!q25)
  ) fun t4 =>
  if t4 = true then
    some ([], false)
  else
    Option.bind (spec_copyHeap N p0) fun q9 =>
    Sh.cont (
      Option.bind (spec_isPointer p1) fun q15 =>
      if q15 = true then
        Option.bind (Sh.get p0 (Sh.w (p1 - 1000))) fun c19 =>
        if (decide (c19.count = 999999)) = true then
          some (Sum.inl ([], false))
        else
          Option.bind (Sh.get q9 (Sh.w (p1 - 1000))) fun c22 =>
          some (Sum.inr (Sh.put q9 (Sh.w (p1 - 1000)) (Cell.mk (Sh.w (c19.count + 1)) c22.tag c22.fields)))
      else
        some (Sum.inr q9)
    ) (id) fun l11 =>
    some (l11, true)

def laws_FnDupWord_L1 (q7 : (List Cell) × Int) (q9 : (List Cell) × Bool) : Nat → Int → Option ((Bool) ⊕ (Unit))
  | 0, _ => none
  | n + 1, i32 =>
    if (decide (i32 < (Sh.len q7.1))) = true then
      Option.bind (
        if (decide (q7.2 = (Sh.w (1000 + i32)))) = true then
          some 1
        else
          some 0
      ) fun more42 =>
      Option.bind (Sh.get q9.1 i32) fun c45 =>
      Option.bind (Sh.get q7.1 i32) fun c46 =>
      if (!decide (c45.count = (Sh.w (c46.count + more42)))) = true then
        some (Sum.inl false)
      else
        laws_FnDupWord_L1 q7 q9 n (Sh.w (i32 + 1))
    else
      some (Sum.inr ())

def laws_FnDupWord (N : Nat) (p0 : (List Int)) : Option (Bool) :=
  if (decide (1048576 < (Sh.len p0))) = true then
    some true
  else
    Option.bind (spec_DrawDupWord N p0) fun q7 =>
    Option.bind (impl_DupWord N q7.1 q7.2) fun q9 =>
    Option.bind (spec_DupWord N q7.1 q7.2) fun q11 =>
    Option.bind (
      Option.bind (laws_equalHeap N q9.1 q11.1) fun q56 =>
      if (!q56) = true then
        some true
      else
      if (q9.2 != q11.2) = true then
        some true
      else
        some (!q9.2)
    ) fun t14 =>
    if t14 = true then
      Option.bind (
        Option.bind (laws_equalHeap N q9.1 q11.1) fun q20 =>
        if q20 = true then
          some (q9.2 == q11.2)
        else
          some false
      ) fun t18 =>
      some t18
    else
      Option.bind (impl_DropWord N q9.1 q7.2) fun q23 =>
      Option.bind (
        if (!decide ((Sh.len q9.1) = (Sh.len q7.1))) = true then
          some true
        else
        if (!q23.2) = true then
          some true
        else
          Option.bind (laws_equalHeap N q23.1 q7.1) fun q55 =>
          some (!q55)
      ) fun t26 =>
      if t26 = true then
        some false
      else
        Sh.cont (laws_FnDupWord_L1 q7 q9 N 0) (id) fun () =>
        Option.bind (impl_ValidHeap N q9.1) fun q35 =>
        some q35

def laws_FnAllocCellDrop_L1 (N : Nat) (q7 : (List Cell) × Int × (List Int)) : Nat → (List Cell) → Int → Option ((Bool) ⊕ ((List Cell)))
  | 0, _, _ => none
  | n + 1, b27, i28 =>
    if (decide (i28 < (Sh.len q7.2.2))) = true then
      Option.bind (Sh.get q7.2.2 i28) fun c41 =>
      Option.bind (impl_DropWord N b27 c41) fun q42 =>
      if (!q42.2) = true then
        some (Sum.inl false)
      else
        laws_FnAllocCellDrop_L1 N q7 n q42.1 (Sh.w (i28 + 1))
    else
      some (Sum.inr b27)

def laws_FnAllocCellDrop (N : Nat) (p0 : (List Int)) : Option (Bool) :=
  if (decide (1048576 < (Sh.len p0))) = true then
    some true
  else
    Option.bind (spec_DrawAllocCell N p0) fun q7 =>
    Option.bind (impl_AllocCell N q7.1 q7.2.1 q7.2.2) fun q9 =>
    Option.bind (spec_AllocCell N q7.1 q7.2.1 q7.2.2) fun q11 =>
    Option.bind (
      Option.bind (laws_equalHeap N q9.1 q11.1) fun q49 =>
      if (!q49) = true then
        some true
      else
      if (!decide (q9.2 = q11.2)) = true then
        some true
      else
        some (decide (q9.2 = 0))
    ) fun t14 =>
    if t14 = true then
      Option.bind (
        Option.bind (laws_equalHeap N q9.1 q11.1) fun q20 =>
        if q20 = true then
          some (decide (q9.2 = q11.2))
        else
          some false
      ) fun t18 =>
      some t18
    else
      Option.bind (impl_DropWord N q9.1 q9.2) fun q23 =>
      Sh.cont (laws_FnAllocCellDrop_L1 N q7 N q7.1 0) (id) fun b29 =>
      Option.bind (
        if q23.2 = true then
          Option.bind (laws_equalHeap N q23.1 b29) fun q35 =>
          some q35
        else
          some false
      ) fun t32 =>
      some t32

def laws_within_L1 (N : Nat) (p0 : (List Int)) (p1 : (List Int)) : Nat → Int → Option ((Bool) ⊕ (Unit))
  | 0, _ => none
  | n + 1, i4 =>
    if (decide (i4 < (Sh.len p0))) = true then
      Option.bind (Sh.get p0 i4) fun c12 =>
      Option.bind (laws_isIn N p1 c12) fun q13 =>
      if (!q13) = true then
        some (Sum.inl false)
      else
        laws_within_L1 N p0 p1 n (Sh.w (i4 + 1))
    else
      some (Sum.inr ())

def laws_within (N : Nat) (p0 : (List Int)) (p1 : (List Int)) : Option (Bool) :=
  Sh.cont (laws_within_L1 N p0 p1 N 0) (id) fun () =>
  some true

def laws_FnDropWord_L1 (N : Nat) (q24 : (List Int)) (q26 : (List Int)) : Nat → Int → (List Int) → Option ((List Int))
  | 0, _, _ => none
  | n + 1, i29, l30 =>
    if (decide (i29 < (Sh.len q26))) = true then
      Option.bind (
        Option.bind (Sh.get q26 i29) fun c49 =>
        Option.bind (laws_isIn N q24 c49) fun q50 =>
        if (!q50) = true then
          Option.bind (Sh.app l30 [c49] 8) fun l53 =>
          some l53
        else
          some l30
      ) fun l46 =>
      laws_FnDropWord_L1 N q24 q26 n (Sh.w (i29 + 1)) l46
    else
      some l30

def laws_FnDropWord (N : Nat) (p0 : (List Int)) : Option (Bool) :=
  if (decide (1048576 < (Sh.len p0))) = true then
    some true
  else
    Option.bind (spec_DrawDropWord N p0) fun q7 =>
    Option.bind (impl_DropWord N q7.1 q7.2) fun q9 =>
    Option.bind (spec_DropWord N q7.1 q7.2) fun q11 =>
    Option.bind (
      Option.bind (laws_equalHeap N q9.1 q11.1) fun q55 =>
      if (!q55) = true then
        some true
      else
      if (q9.2 != q11.2) = true then
        some true
      else
        some (!q9.2)
    ) fun t14 =>
    if t14 = true then
      Option.bind (
        Option.bind (laws_equalHeap N q9.1 q11.1) fun q20 =>
        if q20 = true then
          some (q9.2 == q11.2)
        else
          some false
      ) fun t18 =>
      some t18
    else
      Option.bind (laws_liveIn N q9.1) fun q24 =>
      Option.bind (laws_liveIn N q7.1) fun q26 =>
      Option.bind (laws_FnDropWord_L1 N q24 q26 N 0 []) fun l31 =>
      Option.bind (
        Option.bind (impl_ValidHeap N q9.1) fun q36 =>
        if q36 = true then
          Option.bind (laws_within N q24 q26) fun q38 =>
          if q38 = true then
            Option.bind (impl_ReachOf N q7.1 [q7.2]) fun q40 =>
            Option.bind (laws_within N l31 q40) fun q41 =>
            some q41
          else
            some false
        else
          some false
      ) fun t34 =>
      some t34

end RC
