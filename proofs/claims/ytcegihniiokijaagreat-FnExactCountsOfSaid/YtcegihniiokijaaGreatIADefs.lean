import Derived.Test.YtcegihniiokijaaGreatGEncCToAbsZB
import Derived.Test.YtcegihniiokijaaGreatHADefs
namespace RC
def laws_szCon (p0 : RCon) (p1 : Int) : Option (Int) :=
 Option.bind (laws_szIntS p0.fields p1) fun q3 =>
 if (decide (q3 < 0)) = true then
  some (-1)
 else
  some q3
def laws_szConS_L1 (p0 : (List RCon)) : Nat → Int → Int → Option ((Int) ⊕ (Int))
 | 0, _, _ => none
 | n + 1, left9, i10 =>
  if (decide (i10 < (Sh.len p0))) = true then
   Option.bind (Sh.get p0 i10) fun c19 =>
   Option.bind (laws_szCon c19 left9) fun q20 =>
   if (decide (q20 < 0)) = true then
    some (Sum.inl (-1))
   else
    laws_szConS_L1 p0 n q20 (Sh.w (i10 + 1))
  else
   some (Sum.inr left9)
def laws_szConS (N : Nat) (p0 : (List RCon)) (p1 : Int) : Option (Int) :=
 if (decide ((Sh.w (p1 - (Sh.len p0))) < 0)) = true then
  some (-1)
 else
  Sh.cont (laws_szConS_L1 p0 N (Sh.w (p1 - (Sh.len p0))) 0) (id) fun left11 =>
  some left11
def laws_szDecl (N : Nat) (p0 : RDecl) (p1 : Int) : Option (Int) :=
 Option.bind (laws_szConS N p0.cons p1) fun q3 =>
 if (decide (q3 < 0)) = true then
  some (-1)
 else
  some q3
def laws_szDeclS_L1 (N : Nat) (p0 : (List RDecl)) : Nat → Int → Int → Option ((Int) ⊕ (Int))
 | 0, _, _ => none
 | n + 1, left9, i10 =>
  if (decide (i10 < (Sh.len p0))) = true then
   Option.bind (Sh.get p0 i10) fun c19 =>
   Option.bind (laws_szDecl N c19 left9) fun q20 =>
   if (decide (q20 < 0)) = true then
    some (Sum.inl (-1))
   else
    laws_szDeclS_L1 N p0 n q20 (Sh.w (i10 + 1))
  else
   some (Sum.inr left9)
def laws_szDeclS (N : Nat) (p0 : (List RDecl)) (p1 : Int) : Option (Int) :=
 if (decide ((Sh.w (p1 - (Sh.len p0))) < 0)) = true then
  some (-1)
 else
  Sh.cont (laws_szDeclS_L1 N p0 N (Sh.w (p1 - (Sh.len p0))) 0) (id) fun left11 =>
  some left11
def laws_toCon (N : Nat) (p0 : RCon) : Option (RCon) :=
 Option.bind (laws_toIntS N p0.fields) fun q4 =>
 some (RCon.mk q4)
def laws_toConS_L1 (N : Nat) (p0 : (List RCon)) : Nat → Int → (List RCon) → Option ((List RCon))
 | 0, _, _ => none
 | n + 1, i6, l7 =>
  if (decide (i6 < (Sh.len p0))) = true then
   Option.bind (Sh.get p0 i6) fun c15 =>
   Option.bind (laws_toCon N c15) fun q16 =>
   Option.bind (Sh.get l7 i6) fun c17 =>
   laws_toConS_L1 N p0 n (Sh.w (i6 + 1)) (Sh.put l7 i6 q16)
  else
   some l7
def laws_toConS (N : Nat) (p0 : (List RCon)) : Option ((List RCon)) :=
 Option.bind (Sh.mk (RCon.mk []) (Sh.len p0) 24) fun l3 =>
 Option.bind (laws_toConS_L1 N p0 N 0 l3) fun l8 =>
 some l8
def laws_toDecl (N : Nat) (p0 : RDecl) : Option (RDecl) :=
 Option.bind (laws_toConS N p0.cons) fun q6 =>
 some (RDecl.mk p0.from_ p0.to q6)
def laws_toDeclS_L1 (N : Nat) (p0 : (List RDecl)) : Nat → Int → (List RDecl) → Option ((List RDecl))
 | 0, _, _ => none
 | n + 1, i6, l7 =>
  if (decide (i6 < (Sh.len p0))) = true then
   Option.bind (Sh.get p0 i6) fun c15 =>
   Option.bind (laws_toDecl N c15) fun q16 =>
   Option.bind (Sh.get l7 i6) fun c17 =>
   laws_toDeclS_L1 N p0 n (Sh.w (i6 + 1)) (Sh.put l7 i6 q16)
  else
   some l7
def laws_toDeclS (N : Nat) (p0 : (List RDecl)) : Option ((List RDecl)) :=
 Option.bind (Sh.mk (RDecl.mk 0 0 []) (Sh.len p0) 40) fun l3 =>
 Option.bind (laws_toDeclS_L1 N p0 N 0 l3) fun l8 =>
 some l8
def spec_allTypes_L1 (p0 : (List RDecl)) (p1 : (List Int)) : Nat → Int → Option ((Bool) ⊕ (Unit))
 | 0, _ => none
 | n + 1, i4 =>
  if (decide (i4 < (Sh.len p1))) = true then
   Option.bind (Sh.get p1 i4) fun c12 =>
   Option.bind (spec_inRange c12 0 (Sh.len p0)) fun q13 =>
   if (!q13) = true then
    some (Sum.inl false)
   else
    spec_allTypes_L1 p0 p1 n (Sh.w (i4 + 1))
  else
   some (Sum.inr ())
def spec_allTypes (N : Nat) (p0 : (List RDecl)) (p1 : (List Int)) : Option (Bool) :=
 Sh.cont (spec_allTypes_L1 p0 p1 N 0) (id) fun () =>
 some true
def spec_validDecl_L1 (N : Nat) (c3 : RDecl) (p0 : (List RDecl)) : Nat → Int → Option ((Bool) ⊕ (Unit))
 | 0, _ => none
 | n + 1, i15 =>
  if (decide (i15 < (Sh.len c3.cons))) = true then
   Option.bind (
    Option.bind (Sh.get c3.cons i15) fun c27 =>
    if (decide (3 < (Sh.len c27.fields))) = true then
     some true
    else
     Option.bind (spec_allTypes N p0 c27.fields) fun q29 =>
     some (!q29)
   ) fun t23 =>
   if t23 = true then
    some (Sum.inl false)
   else
    spec_validDecl_L1 N c3 p0 n (Sh.w (i15 + 1))
  else
   some (Sum.inr ())
def spec_validDecl_L2 (c3 : RDecl) (p0 : (List RDecl)) (p1 : Int) : Nat → Int → Option ((Bool) ⊕ (Unit))
 | 0, _ => none
 | n + 1, i34 =>
  if (decide (i34 < p1)) = true then
   Option.bind (
    Option.bind (Sh.get p0 i34) fun c51 =>
    if (decide ((Sh.len c51.cons) = 0)) = true then
     if (decide (c51.from_ = c3.from_)) = true then
      some (decide (c51.to = c3.to))
     else
      some false
    else
     some false
   ) fun t47 =>
   if t47 = true then
    some (Sum.inl false)
   else
    spec_validDecl_L2 c3 p0 p1 n (Sh.w (i34 + 1))
  else
   some (Sum.inr ())
def spec_validDecl (N : Nat) (p0 : (List RDecl)) (p1 : Int) : Option (Bool) :=
 Option.bind (Sh.get p0 p1) fun c3 =>
 if (decide (0 < (Sh.len c3.cons))) = true then
  Option.bind (
   if (decide (3 < (Sh.len c3.cons))) = true then
    some true
   else
   if (!decide (c3.from_ = 0)) = true then
    some true
   else
    some (!decide (c3.to = 0))
  ) fun t9 =>
  if t9 = true then
   some false
  else
   Sh.cont (spec_validDecl_L1 N c3 p0 N 0) (id) fun () =>
   some true
 else
  Sh.cont (spec_validDecl_L2 c3 p0 p1 N 0) (id) fun () =>
  Option.bind (
   Option.bind (spec_inRange c3.from_ 0 (Sh.len p0)) fun q39 =>
   if q39 = true then
    Option.bind (spec_inRange c3.to 0 (Sh.len p0)) fun q41 =>
    some q41
   else
    some false
  ) fun t37 =>
  some t37
def spec_validTypes_L1 (N : Nat) (p0 : (List RDecl)) : Nat → Int → Option ((Bool) ⊕ (Unit))
 | 0, _ => none
 | n + 1, i8 =>
  if (decide (i8 < (Sh.len p0))) = true then
   Option.bind (spec_validDecl N p0 i8) fun q16 =>
   if (!q16) = true then
    some (Sum.inl false)
   else
    spec_validTypes_L1 N p0 n (Sh.w (i8 + 1))
  else
   some (Sum.inr ())
def spec_validTypes (N : Nat) (p0 : (List RDecl)) : Option (Bool) :=
 if (decide (4 < (Sh.len p0))) = true then
  some false
 else
  Sh.cont (spec_validTypes_L1 N p0 N 0) (id) fun () =>
  some true
def spec_validSigs_L1 (N : Nat) (p0 : RProgram) : Nat → Int → Option ((Bool) ⊕ (Unit))
 | 0, _ => none
 | n + 1, i10 =>
  if (decide (i10 < (Sh.len p0.funcs))) = true then
   Option.bind (Sh.get p0.funcs i10) fun c22 =>
   Option.bind (
    if (decide (3 < (Sh.len c22.params))) = true then
     some true
    else
     Option.bind (spec_allTypes N p0.decls c22.params) fun q29 =>
     if (!q29) = true then
      some true
     else
      Option.bind (spec_inRange c22.result 0 (Sh.len p0.decls)) fun q31 =>
      some (!q31)
   ) fun t24 =>
   if t24 = true then
    some (Sum.inl false)
   else
    spec_validSigs_L1 N p0 n (Sh.w (i10 + 1))
  else
   some (Sum.inr ())
def spec_validSigs (N : Nat) (p0 : RProgram) : Option (Bool) :=
 Option.bind (
  Option.bind (spec_validTypes N p0.decls) fun q32 =>
  if (!q32) = true then
   some true
  else
   Option.bind (spec_inRange (Sh.len p0.funcs) 1 4) fun q34 =>
   some (!q34)
 ) fun t4 =>
 if t4 = true then
  some false
 else
  Sh.cont (spec_validSigs_L1 N p0 N 0) (id) fun () =>
  Option.bind (
   Option.bind (Sh.get p0.funcs 0) fun c15 =>
   if (decide ((Sh.len c15.params) = 0)) = true then
    some (decide (c15.result = 0))
   else
    some false
  ) fun t13 =>
  some t13
def spec_validLent_L1 (p0 : (List Int)) (p1 : (List Int)) : Nat → Int → Option ((Bool) ⊕ (Unit))
 | 0, _ => none
 | n + 1, i4 =>
  if (decide (i4 < (Sh.len p1))) = true then
   Option.bind (
    Option.bind (Sh.get p1 i4) fun c16 =>
    Option.bind (spec_inRange c16 0 (Sh.w ((Sh.len p0) - 1))) fun q17 =>
    if (!q17) = true then
     some true
    else
     Option.bind (Sh.get p0 c16) fun c19 =>
     if (decide (c19 = 0)) = true then
      some true
     else
     if (decide (0 < i4)) = true then
      Option.bind (Sh.get p1 (Sh.w (i4 - 1))) fun c22 =>
      some (decide (c16 ≤ c22))
     else
      some false
   ) fun t12 =>
   if t12 = true then
    some (Sum.inl false)
   else
    spec_validLent_L1 p0 p1 n (Sh.w (i4 + 1))
  else
   some (Sum.inr ())
def spec_validLent (N : Nat) (p0 : (List Int)) (p1 : (List Int)) : Option (Bool) :=
 Sh.cont (spec_validLent_L1 p0 p1 N 0) (id) fun () =>
 some true
def spec_defines (p0 : Int) : Option (Bool) :=
 Option.bind (spec_inRange p0 0 11) fun q3 =>
 some q3
def spec_firstCon_L1 (p0 : (List RDecl)) (p1 : Int) : Nat → Int → Int → Option (Int)
 | 0, _, _ => none
 | n + 1, n5, i6 =>
  if (decide (i6 < p1)) = true then
   Option.bind (Sh.get p0 i6) fun c14 =>
   spec_firstCon_L1 p0 p1 n (Sh.w (n5 + (Sh.len c14.cons))) (Sh.w (i6 + 1))
  else
   some n5
def spec_firstCon (N : Nat) (p0 : (List RDecl)) (p1 : Int) : Option (Int) :=
 Option.bind (spec_firstCon_L1 p0 p1 N 0 0) fun n7 =>
 some n7
def spec_conType_L1 (N : Nat) (p0 : (List RDecl)) (p1 : Int) : Nat → Int → Option ((Int) ⊕ (Unit))
 | 0, _ => none
 | n + 1, i4 =>
  if (decide (i4 < (Sh.len p0))) = true then
   Option.bind (spec_firstCon N p0 i4) fun q12 =>
   Option.bind (Sh.get p0 i4) fun c14 =>
   Option.bind (spec_inRange p1 q12 (Sh.w ((Sh.w (q12 + (Sh.len c14.cons))) - 1))) fun q15 =>
   if q15 = true then
    some (Sum.inl (Sh.w (i4 + 1)))
   else
    spec_conType_L1 N p0 p1 n (Sh.w (i4 + 1))
  else
   some (Sum.inr ())
def spec_conType (N : Nat) (p0 : (List RDecl)) (p1 : Int) : Option (Int) :=
 Sh.cont (spec_conType_L1 N p0 p1 N 0) (id) fun () =>
 some (-1)
def spec_conFields (N : Nat) (p0 : (List RDecl)) (p1 : Int) : Option ((List Int)) :=
 Option.bind (spec_conType N p0 p1) fun q3 =>
 if (decide (q3 < 1)) = true then
  some []
 else
  Option.bind (Sh.get p0 (Sh.w (q3 - 1))) fun c9 =>
  Option.bind (spec_firstCon N p0 (Sh.w (q3 - 1))) fun q10 =>
  Option.bind (Sh.get c9.cons (Sh.w (p1 - q10))) fun c11 =>
  some c11.fields
def spec_consOf_L1 (N : Nat) (p0 : (List RDecl)) (p1 : Int) : Nat → Int → (List Int) → Option ((List Int))
 | 0, _, _ => none
 | n + 1, i12, l13 =>
  Option.bind (Sh.get p0 (Sh.w (p1 - 1))) fun c19 =>
  if (decide (i12 < (Sh.len c19.cons))) = true then
   Option.bind (spec_firstCon N p0 (Sh.w (p1 - 1))) fun q22 =>
   Option.bind (Sh.app l13 [Sh.w (q22 + i12)] 8) fun l23 =>
   spec_consOf_L1 N p0 p1 n (Sh.w (i12 + 1)) l23
  else
   some l13
def spec_consOf (N : Nat) (p0 : (List RDecl)) (p1 : Int) : Option ((List Int)) :=
 Option.bind (spec_inRange p1 1 (Sh.len p0)) fun q5 =>
 if (!q5) = true then
  some []
 else
  Option.bind (spec_consOf_L1 N p0 p1 N 0 []) fun l14 =>
  some l14
def impl_isType (p0 : (List RDecl)) (p1 : Int) : Option (Bool) :=
 Option.bind (
  if (decide (0 ≤ p1)) = true then
   some (decide (p1 ≤ (Sh.len p0)))
  else
   some false
 ) fun t3 =>
 some t3
def impl_allTypes_L1 (p0 : (List RDecl)) (p1 : (List Int)) : Nat → Int → Option ((Bool) ⊕ (Unit))
 | 0, _ => none
 | n + 1, t4 =>
  if (decide (t4 < (Sh.len p1))) = true then
   Option.bind (Sh.get p1 t4) fun c12 =>
   Option.bind (impl_isType p0 c12) fun q14 =>
   if (!q14) = true then
    some (Sum.inl false)
   else
    impl_allTypes_L1 p0 p1 n (Sh.w (t4 + 1))
  else
   some (Sum.inr ())
def impl_allTypes (N : Nat) (p0 : (List RDecl)) (p1 : (List Int)) : Option (Bool) :=
 Sh.cont (impl_allTypes_L1 p0 p1 N 0) (id) fun () =>
 some true
def impl_ValidTypes_L3 (c16 : RDecl) (l28 : (List RDecl)) : Nat → Int → Option ((Bool) ⊕ (Unit))
 | 0, _ => none
 | n + 1, t29 =>
  if (decide (t29 < (Sh.len l28))) = true then
   Option.bind (Sh.get l28 t29) fun c36 =>
   Option.bind (
    if (decide ((Sh.len c16.cons) = 0)) = true then
     if (decide ((Sh.len c36.cons) = 0)) = true then
      if (decide (c36.from_ = c16.from_)) = true then
       some (decide (c36.to = c16.to))
      else
       some false
     else
      some false
    else
     some false
   ) fun t38 =>
   if t38 = true then
    some (Sum.inl false)
   else
    impl_ValidTypes_L3 c16 l28 n (Sh.w (t29 + 1))
  else
   some (Sum.inr ())
def impl_ValidTypes_L2 (N : Nat) (c16 : RDecl) (p0 : (List RDecl)) : Nat → Int → Option ((Bool) ⊕ (Unit))
 | 0, _ => none
 | n + 1, t25 =>
  if (decide (t25 < (Sh.len c16.cons))) = true then
   Option.bind (Sh.get c16.cons t25) fun c50 =>
   Option.bind (
    if (decide (3 < (Sh.len c50.fields))) = true then
     some true
    else
     Option.bind (impl_allTypes N p0 c50.fields) fun q57 =>
     some (!q57)
   ) fun t52 =>
   if t52 = true then
    some (Sum.inl false)
   else
    impl_ValidTypes_L2 N c16 p0 n (Sh.w (t25 + 1))
  else
   some (Sum.inr ())
def impl_ValidTypes_L1 (N : Nat) (p0 : (List RDecl)) : Nat → Int → Option ((Bool) ⊕ (Unit))
 | 0, _ => none
 | n + 1, t8 =>
  if (decide (t8 < (Sh.len p0))) = true then
   Option.bind (Sh.get p0 t8) fun c16 =>
   Option.bind (
    Option.bind (impl_isType p0 c16.from_) fun q58 =>
    if (!q58) = true then
     some true
    else
     Option.bind (impl_isType p0 c16.to) fun q60 =>
     if (!q60) = true then
      some true
     else
     if (decide (3 < (Sh.len c16.cons))) = true then
      some true
     else
     if (decide (0 < (Sh.len c16.cons))) = true then
      if (!decide (c16.from_ = 0)) = true then
       some true
      else
       some (!decide (c16.to = 0))
     else
      some false
   ) fun t19 =>
   if t19 = true then
    some (Sum.inl false)
   else
    Sh.cont (impl_ValidTypes_L2 N c16 p0 N 0) (fun x => Sum.inl x) fun () =>
    Option.bind (Sh.sl p0 0 t8) fun l28 =>
    Sh.cont (impl_ValidTypes_L3 c16 l28 N 0) (fun x => Sum.inl x) fun () =>
    impl_ValidTypes_L1 N p0 n (Sh.w (t8 + 1))
  else
   some (Sum.inr ())
def impl_ValidTypes (N : Nat) (p0 : (List RDecl)) : Option (Bool) :=
 if (decide (4 < (Sh.len p0))) = true then
  some false
 else
  Sh.cont (impl_ValidTypes_L1 N p0 N 0) (id) fun () =>
  some true
def impl_validSigs_L2 (c18 : RSignature) : Nat → Int → Option ((Bool) ⊕ (Unit))
 | 0, _ => none
 | n + 1, t26 =>
  if (decide (t26 < (Sh.len c18.lent))) = true then
   Option.bind (Sh.get c18.lent t26) fun c33 =>
   Option.bind (
    if (decide (c33 < 0)) = true then
     some true
    else
    if (decide ((Sh.len c18.params) ≤ c33)) = true then
     some true
    else
     Option.bind (Sh.get c18.params c33) fun c41 =>
     if (decide (c41 = 0)) = true then
      some true
     else
     if (decide (0 < t26)) = true then
      Option.bind (Sh.get c18.lent (Sh.w (t26 - 1))) fun c44 =>
      some (decide (c33 ≤ c44))
     else
      some false
   ) fun t35 =>
   if t35 = true then
    some (Sum.inl false)
   else
    impl_validSigs_L2 c18 n (Sh.w (t26 + 1))
  else
   some (Sum.inr ())
def impl_validSigs_L1 (N : Nat) (p0 : (List RDecl)) (p1 : (List RSignature)) : Nat → Int → Option ((Bool) ⊕ (Unit))
 | 0, _ => none
 | n + 1, t10 =>
  if (decide (t10 < (Sh.len p1))) = true then
   Option.bind (Sh.get p1 t10) fun c18 =>
   Option.bind (
    if (decide (3 < (Sh.len c18.params))) = true then
     some true
    else
     Option.bind (impl_allTypes N p0 c18.params) fun q46 =>
     if (!q46) = true then
      some true
     else
      Option.bind (impl_isType p0 c18.result) fun q48 =>
      some (!q48)
   ) fun t21 =>
   if t21 = true then
    some (Sum.inl false)
   else
    Sh.cont (impl_validSigs_L2 c18 N 0) (fun x => Sum.inl x) fun () =>
    impl_validSigs_L1 N p0 p1 n (Sh.w (t10 + 1))
  else
   some (Sum.inr ())
def impl_validSigs (N : Nat) (p0 : (List RDecl)) (p1 : (List RSignature)) : Option (Bool) :=
 Option.bind (
  Option.bind (impl_ValidTypes N p0) fun q49 =>
  if (!q49) = true then
   some true
  else
  if (decide ((Sh.len p1) < 1)) = true then
   some true
  else
  if (decide (4 < (Sh.len p1))) = true then
   some true
  else
   Option.bind (Sh.get p1 0) fun c53 =>
   if (decide (0 < (Sh.len c53.params))) = true then
    some true
   else
    some (!decide (c53.result = 0))
 ) fun t4 =>
 if t4 = true then
  some false
 else
  Sh.cont (impl_validSigs_L1 N p0 p1 N 0) (id) fun () =>
  some true
def impl_conCount_L1 (p0 : (List RDecl)) : Nat → Int → Int → Option (Int)
 | 0, _, _ => none
 | n + 1, n5, t6 =>
  if (decide (t6 < (Sh.len p0))) = true then
   Option.bind (Sh.get p0 t6) fun c15 =>
   impl_conCount_L1 p0 n (Sh.w (n5 + (Sh.len c15.cons))) (Sh.w (t6 + 1))
  else
   some n5
def impl_conCount (N : Nat) (p0 : (List RDecl)) : Option (Int) :=
 Option.bind (impl_conCount_L1 p0 N 0 0) fun n7 =>
 some n7
def impl_consOf_L1 (c14 : RDecl) (q10 : Int) : Nat → Int → (List Int) → Option ((List Int))
 | 0, _, _ => none
 | n + 1, t15, l16 =>
  if (decide (t15 < (Sh.len c14.cons))) = true then
   Option.bind (Sh.app l16 [Sh.w (q10 + t15)] 8) fun l25 =>
   impl_consOf_L1 c14 q10 n (Sh.w (t15 + 1)) l25
  else
   some l16
def impl_consOf (N : Nat) (p0 : (List RDecl)) (p1 : Int) : Option ((List Int)) :=
 Option.bind (
  if (decide (p1 < 1)) = true then
   some true
  else
   some (decide ((Sh.len p0) < p1))
 ) fun t4 =>
 if t4 = true then
  some []
 else
  Option.bind (Sh.sl p0 0 (Sh.w (p1 - 1))) fun l9 =>
  Option.bind (impl_conCount N l9) fun q10 =>
  Option.bind (Sh.get p0 (Sh.w (p1 - 1))) fun c14 =>
  Option.bind (impl_consOf_L1 c14 q10 N 0 []) fun l17 =>
  some l17
def impl_conAt_L1 (p0 : (List RDecl)) : Nat → Int → Int → Option ((Int × RCon) ⊕ (Unit))
 | 0, _, _ => none
 | n + 1, c4, t5 =>
  if (decide (t5 < (Sh.len p0))) = true then
   Option.bind (Sh.get p0 t5) fun c13 =>
   Option.bind (
    if (decide (0 ≤ c4)) = true then
     some (decide (c4 < (Sh.len c13.cons)))
    else
     some false
   ) fun t16 =>
   if t16 = true then
    Option.bind (Sh.get c13.cons c4) fun c20 =>
    some (Sum.inl (Sh.w (t5 + 1), c20))
   else
    impl_conAt_L1 p0 n (Sh.w (c4 - (Sh.len c13.cons))) (Sh.w (t5 + 1))
  else
   some (Sum.inr ())
def impl_conAt (N : Nat) (p0 : (List RDecl)) (p1 : Int) : Option (Int × RCon) :=
 Sh.cont (impl_conAt_L1 p0 N p1 0) (id) fun () =>
 some (-1, (RCon.mk []))
def impl_fieldsOf (N : Nat) (p0 : (List RDecl)) (p1 : Int) : Option ((List Int)) :=
 Option.bind (impl_conAt N p0 p1) fun q3 =>
 some q3.2.fields
def laws_eqCon (N : Nat) (p0 : RCon) (p1 : RCon) : Option (Bool) :=
 Option.bind (laws_eqIntS N p0.fields p1.fields) fun q4 =>
 if (!q4) = true then
  some false
 else
  some true
def laws_eqConS_L1 (N : Nat) (p0 : (List RCon)) (p1 : (List RCon)) : Nat → Int → Option ((Bool) ⊕ (Unit))
 | 0, _ => none
 | n + 1, i10 =>
  if (decide (i10 < (Sh.len p0))) = true then
   Option.bind (Sh.get p0 i10) fun c18 =>
   Option.bind (Sh.get p1 i10) fun c19 =>
   Option.bind (laws_eqCon N c18 c19) fun q20 =>
   if (!q20) = true then
    some (Sum.inl false)
   else
    laws_eqConS_L1 N p0 p1 n (Sh.w (i10 + 1))
  else
   some (Sum.inr ())
def laws_eqConS (N : Nat) (p0 : (List RCon)) (p1 : (List RCon)) : Option (Bool) :=
 if (!decide ((Sh.len p0) = (Sh.len p1))) = true then
  some false
 else
  Sh.cont (laws_eqConS_L1 N p0 p1 N 0) (id) fun () =>
  some true
def laws_eqDecl (N : Nat) (p0 : RDecl) (p1 : RDecl) : Option (Bool) :=
 if (!decide (p0.from_ = p1.from_)) = true then
  some false
 else
 if (!decide (p0.to = p1.to)) = true then
  some false
 else
  Option.bind (laws_eqConS N p0.cons p1.cons) fun q16 =>
  if (!q16) = true then
   some false
  else
   some true
def laws_eqDeclS_L1 (N : Nat) (p0 : (List RDecl)) (p1 : (List RDecl)) : Nat → Int → Option ((Bool) ⊕ (Unit))
 | 0, _ => none
 | n + 1, i10 =>
  if (decide (i10 < (Sh.len p0))) = true then
   Option.bind (Sh.get p0 i10) fun c18 =>
   Option.bind (Sh.get p1 i10) fun c19 =>
   Option.bind (laws_eqDecl N c18 c19) fun q20 =>
   if (!q20) = true then
    some (Sum.inl false)
   else
    laws_eqDeclS_L1 N p0 p1 n (Sh.w (i10 + 1))
  else
   some (Sum.inr ())
def laws_eqDeclS (N : Nat) (p0 : (List RDecl)) (p1 : (List RDecl)) : Option (Bool) :=
 if (!decide ((Sh.len p0) = (Sh.len p1))) = true then
  some false
 else
  Sh.cont (laws_eqDeclS_L1 N p0 p1 N 0) (id) fun () =>
  some true
end RC

