import Derived.Test.YtpahalfiiahddaaGEncToEncB
import Derived.Test.YtpahalfiiahddaaGEncCToSSDefs
import Derived.Test.YtpahalfiiahddaaSufC
namespace RC
def laws_szIntS (p0 : (List Int)) (p1 : Int) : Option (Int) :=
 if (decide ((Sh.w (p1 - (Sh.len p0))) < 0)) = true then
  some (-1)
 else
  some (Sh.w (p1 - (Sh.len p0)))
def laws_toIntS_L1 (p0 : (List Int)) : Nat → Int → (List Int) → Option ((List Int))
 | 0, _, _ => none
 | n + 1, i6, l7 =>
  if (decide (i6 < (Sh.len p0))) = true then
   Option.bind (Sh.get p0 i6) fun c15 =>
   Option.bind (Sh.get l7 i6) fun c16 =>
   laws_toIntS_L1 p0 n (Sh.w (i6 + 1)) (Sh.put l7 i6 c15)
  else
   some l7
def laws_toIntS (N : Nat) (p0 : (List Int)) : Option ((List Int)) :=
 Option.bind (Sh.mk 0 (Sh.len p0) 8) fun l3 =>
 Option.bind (laws_toIntS_L1 p0 N 0 l3) fun l8 =>
 some l8
def spec_inRange (p0 : Int) (p1 : Int) (p2 : Int) : Option (Bool) :=
 Option.bind (
  if (decide (p1 ≤ p0)) = true then
   some (decide (p0 ≤ p2))
  else
   some false
 ) fun t3 =>
 some t3
def spec_allZero_L1 (p0 : (List Int)) : Nat → Int → Option ((Bool) ⊕ (Unit))
 | 0, _ => none
 | n + 1, i4 =>
  if (decide (i4 < (Sh.len p0))) = true then
   Option.bind (Sh.get p0 i4) fun c12 =>
   if (!decide (c12 = 0)) = true then
    some (Sum.inl false)
   else
    spec_allZero_L1 p0 n (Sh.w (i4 + 1))
  else
   some (Sum.inr ())
def slices_Clone_int_int (p0 : (List Int)) : Option ((List Int)) :=
 Option.bind (Sh.app ([] : List Int) p0 8) fun l6 =>
 some l6
def laws_eqIntS_L1 (p0 : (List Int)) (p1 : (List Int)) : Nat → Int → Option ((Bool) ⊕ (Unit))
 | 0, _ => none
 | n + 1, i10 =>
  if (decide (i10 < (Sh.len p0))) = true then
   Option.bind (Sh.get p0 i10) fun c18 =>
   Option.bind (Sh.get p1 i10) fun c19 =>
   if (!decide (c18 = c19)) = true then
    some (Sum.inl false)
   else
    laws_eqIntS_L1 p0 p1 n (Sh.w (i10 + 1))
  else
   some (Sum.inr ())
def laws_eqIntS (N : Nat) (p0 : (List Int)) (p1 : (List Int)) : Option (Bool) :=
 if (!decide ((Sh.len p0) = (Sh.len p1))) = true then
  some false
 else
  Sh.cont (laws_eqIntS_L1 p0 p1 N 0) (id) fun () =>
  some true
end RC


namespace RC
def laws_szCon (p0 : RCon) (p1 : Int) : Option (Int) :=
 Option.bind (laws_szIntS p0.fields p1) fun q3 =>
 if (decide (q3 < 0)) = true then
  some (-1)
 else
  some q3
def laws_szConS_L1 (p0 : (List RCon)) : Nat → Int → Int → Option ((Int) ⊕ (Int))
 | 0, _, _ => none
 | n + 1, left9, i10 =>
  if (decide (i10 < (Sh.len p0))) = true then
   Option.bind (Sh.get p0 i10) fun c19 =>
   Option.bind (laws_szCon c19 left9) fun q20 =>
   if (decide (q20 < 0)) = true then
    some (Sum.inl (-1))
   else
    laws_szConS_L1 p0 n q20 (Sh.w (i10 + 1))
  else
   some (Sum.inr left9)
def laws_szConS (N : Nat) (p0 : (List RCon)) (p1 : Int) : Option (Int) :=
 if (decide ((Sh.w (p1 - (Sh.len p0))) < 0)) = true then
  some (-1)
 else
  Sh.cont (laws_szConS_L1 p0 N (Sh.w (p1 - (Sh.len p0))) 0) (id) fun left11 =>
  some left11
def laws_szDecl (N : Nat) (p0 : RDecl) (p1 : Int) : Option (Int) :=
 Option.bind (laws_szConS N p0.cons p1) fun q3 =>
 if (decide (q3 < 0)) = true then
  some (-1)
 else
  some q3
def laws_szDeclS_L1 (N : Nat) (p0 : (List RDecl)) : Nat → Int → Int → Option ((Int) ⊕ (Int))
 | 0, _, _ => none
 | n + 1, left9, i10 =>
  if (decide (i10 < (Sh.len p0))) = true then
   Option.bind (Sh.get p0 i10) fun c19 =>
   Option.bind (laws_szDecl N c19 left9) fun q20 =>
   if (decide (q20 < 0)) = true then
    some (Sum.inl (-1))
   else
    laws_szDeclS_L1 N p0 n q20 (Sh.w (i10 + 1))
  else
   some (Sum.inr left9)
def laws_szDeclS (N : Nat) (p0 : (List RDecl)) (p1 : Int) : Option (Int) :=
 if (decide ((Sh.w (p1 - (Sh.len p0))) < 0)) = true then
  some (-1)
 else
  Sh.cont (laws_szDeclS_L1 N p0 N (Sh.w (p1 - (Sh.len p0))) 0) (id) fun left11 =>
  some left11
def laws_toCon (N : Nat) (p0 : RCon) : Option (RCon) :=
 Option.bind (laws_toIntS N p0.fields) fun q4 =>
 some (RCon.mk q4)
def laws_toConS_L1 (N : Nat) (p0 : (List RCon)) : Nat → Int → (List RCon) → Option ((List RCon))
 | 0, _, _ => none
 | n + 1, i6, l7 =>
  if (decide (i6 < (Sh.len p0))) = true then
   Option.bind (Sh.get p0 i6) fun c15 =>
   Option.bind (laws_toCon N c15) fun q16 =>
   Option.bind (Sh.get l7 i6) fun c17 =>
   laws_toConS_L1 N p0 n (Sh.w (i6 + 1)) (Sh.put l7 i6 q16)
  else
   some l7
def laws_toConS (N : Nat) (p0 : (List RCon)) : Option ((List RCon)) :=
 Option.bind (Sh.mk (RCon.mk []) (Sh.len p0) 24) fun l3 =>
 Option.bind (laws_toConS_L1 N p0 N 0 l3) fun l8 =>
 some l8
def laws_toDecl (N : Nat) (p0 : RDecl) : Option (RDecl) :=
 Option.bind (laws_toConS N p0.cons) fun q6 =>
 some (RDecl.mk p0.from_ p0.to q6)
def laws_toDeclS_L1 (N : Nat) (p0 : (List RDecl)) : Nat → Int → (List RDecl) → Option ((List RDecl))
 | 0, _, _ => none
 | n + 1, i6, l7 =>
  if (decide (i6 < (Sh.len p0))) = true then
   Option.bind (Sh.get p0 i6) fun c15 =>
   Option.bind (laws_toDecl N c15) fun q16 =>
   Option.bind (Sh.get l7 i6) fun c17 =>
   laws_toDeclS_L1 N p0 n (Sh.w (i6 + 1)) (Sh.put l7 i6 q16)
  else
   some l7
def laws_toDeclS (N : Nat) (p0 : (List RDecl)) : Option ((List RDecl)) :=
 Option.bind (Sh.mk (RDecl.mk 0 0 []) (Sh.len p0) 40) fun l3 =>
 Option.bind (laws_toDeclS_L1 N p0 N 0 l3) fun l8 =>
 some l8
def spec_allTypes_L1 (p0 : (List RDecl)) (p1 : (List Int)) : Nat → Int → Option ((Bool) ⊕ (Unit))
 | 0, _ => none
 | n + 1, i4 =>
  if (decide (i4 < (Sh.len p1))) = true then
   Option.bind (Sh.get p1 i4) fun c12 =>
   Option.bind (spec_inRange c12 0 (Sh.len p0)) fun q13 =>
   if (!q13) = true then
    some (Sum.inl false)
   else
    spec_allTypes_L1 p0 p1 n (Sh.w (i4 + 1))
  else
   some (Sum.inr ())
def spec_allTypes (N : Nat) (p0 : (List RDecl)) (p1 : (List Int)) : Option (Bool) :=
 Sh.cont (spec_allTypes_L1 p0 p1 N 0) (id) fun () =>
 some true
def spec_validDecl_L1 (N : Nat) (c3 : RDecl) (p0 : (List RDecl)) : Nat → Int → Option ((Bool) ⊕ (Unit))
 | 0, _ => none
 | n + 1, i15 =>
  if (decide (i15 < (Sh.len c3.cons))) = true then
   Option.bind (
    Option.bind (Sh.get c3.cons i15) fun c27 =>
    if (decide (3 < (Sh.len c27.fields))) = true then
     some true
    else
     Option.bind (spec_allTypes N p0 c27.fields) fun q29 =>
     some (!q29)
   ) fun t23 =>
   if t23 = true then
    some (Sum.inl false)
   else
    spec_validDecl_L1 N c3 p0 n (Sh.w (i15 + 1))
  else
   some (Sum.inr ())
def spec_validDecl_L2 (c3 : RDecl) (p0 : (List RDecl)) (p1 : Int) : Nat → Int → Option ((Bool) ⊕ (Unit))
 | 0, _ => none
 | n + 1, i34 =>
  if (decide (i34 < p1)) = true then
   Option.bind (
    Option.bind (Sh.get p0 i34) fun c51 =>
    if (decide ((Sh.len c51.cons) = 0)) = true then
     if (decide (c51.from_ = c3.from_)) = true then
      some (decide (c51.to = c3.to))
     else
      some false
    else
     some false
   ) fun t47 =>
   if t47 = true then
    some (Sum.inl false)
   else
    spec_validDecl_L2 c3 p0 p1 n (Sh.w (i34 + 1))
  else
   some (Sum.inr ())
def spec_validDecl (N : Nat) (p0 : (List RDecl)) (p1 : Int) : Option (Bool) :=
 Option.bind (Sh.get p0 p1) fun c3 =>
 if (decide (0 < (Sh.len c3.cons))) = true then
  Option.bind (
   if (decide (3 < (Sh.len c3.cons))) = true then
    some true
   else
   if (!decide (c3.from_ = 0)) = true then
    some true
   else
    some (!decide (c3.to = 0))
  ) fun t9 =>
  if t9 = true then
   some false
  else
   Sh.cont (spec_validDecl_L1 N c3 p0 N 0) (id) fun () =>
   some true
 else
  Sh.cont (spec_validDecl_L2 c3 p0 p1 N 0) (id) fun () =>
  Option.bind (
   Option.bind (spec_inRange c3.from_ 0 (Sh.len p0)) fun q39 =>
   if q39 = true then
    Option.bind (spec_inRange c3.to 0 (Sh.len p0)) fun q41 =>
    some q41
   else
    some false
  ) fun t37 =>
  some t37
def spec_validTypes_L1 (N : Nat) (p0 : (List RDecl)) : Nat → Int → Option ((Bool) ⊕ (Unit))
 | 0, _ => none
 | n + 1, i8 =>
  if (decide (i8 < (Sh.len p0))) = true then
   Option.bind (spec_validDecl N p0 i8) fun q16 =>
   if (!q16) = true then
    some (Sum.inl false)
   else
    spec_validTypes_L1 N p0 n (Sh.w (i8 + 1))
  else
   some (Sum.inr ())
def spec_validTypes (N : Nat) (p0 : (List RDecl)) : Option (Bool) :=
 if (decide (4 < (Sh.len p0))) = true then
  some false
 else
  Sh.cont (spec_validTypes_L1 N p0 N 0) (id) fun () =>
  some true
def spec_validSigs_L1 (N : Nat) (p0 : RProgram) : Nat → Int → Option ((Bool) ⊕ (Unit))
 | 0, _ => none
 | n + 1, i10 =>
  if (decide (i10 < (Sh.len p0.funcs))) = true then
   Option.bind (Sh.get p0.funcs i10) fun c22 =>
   Option.bind (
    if (decide (3 < (Sh.len c22.params))) = true then
     some true
    else
     Option.bind (spec_allTypes N p0.decls c22.params) fun q29 =>
     if (!q29) = true then
      some true
     else
      Option.bind (spec_inRange c22.result 0 (Sh.len p0.decls)) fun q31 =>
      some (!q31)
   ) fun t24 =>
   if t24 = true then
    some (Sum.inl false)
   else
    spec_validSigs_L1 N p0 n (Sh.w (i10 + 1))
  else
   some (Sum.inr ())
def spec_validSigs (N : Nat) (p0 : RProgram) : Option (Bool) :=
 Option.bind (
  Option.bind (spec_validTypes N p0.decls) fun q32 =>
  if (!q32) = true then
   some true
  else
   Option.bind (spec_inRange (Sh.len p0.funcs) 1 4) fun q34 =>
   some (!q34)
 ) fun t4 =>
 if t4 = true then
  some false
 else
  Sh.cont (spec_validSigs_L1 N p0 N 0) (id) fun () =>
  Option.bind (
   Option.bind (Sh.get p0.funcs 0) fun c15 =>
   if (decide ((Sh.len c15.params) = 0)) = true then
    some (decide (c15.result = 0))
   else
    some false
  ) fun t13 =>
  some t13
def spec_firstCon_L1 (p0 : (List RDecl)) (p1 : Int) : Nat → Int → Int → Option (Int)
 | 0, _, _ => none
 | n + 1, n5, i6 =>
  if (decide (i6 < p1)) = true then
   Option.bind (Sh.get p0 i6) fun c14 =>
   spec_firstCon_L1 p0 p1 n (Sh.w (n5 + (Sh.len c14.cons))) (Sh.w (i6 + 1))
  else
   some n5
def spec_firstCon (N : Nat) (p0 : (List RDecl)) (p1 : Int) : Option (Int) :=
 Option.bind (spec_firstCon_L1 p0 p1 N 0 0) fun n7 =>
 some n7
def spec_conType_L1 (N : Nat) (p0 : (List RDecl)) (p1 : Int) : Nat → Int → Option ((Int) ⊕ (Unit))
 | 0, _ => none
 | n + 1, i4 =>
  if (decide (i4 < (Sh.len p0))) = true then
   Option.bind (spec_firstCon N p0 i4) fun q12 =>
   Option.bind (Sh.get p0 i4) fun c14 =>
   Option.bind (spec_inRange p1 q12 (Sh.w ((Sh.w (q12 + (Sh.len c14.cons))) - 1))) fun q15 =>
   if q15 = true then
    some (Sum.inl (Sh.w (i4 + 1)))
   else
    spec_conType_L1 N p0 p1 n (Sh.w (i4 + 1))
  else
   some (Sum.inr ())
def spec_conType (N : Nat) (p0 : (List RDecl)) (p1 : Int) : Option (Int) :=
 Sh.cont (spec_conType_L1 N p0 p1 N 0) (id) fun () =>
 some (-1)
def spec_conFields (N : Nat) (p0 : (List RDecl)) (p1 : Int) : Option ((List Int)) :=
 Option.bind (spec_conType N p0 p1) fun q3 =>
 if (decide (q3 < 1)) = true then
  some []
 else
  Option.bind (Sh.get p0 (Sh.w (q3 - 1))) fun c9 =>
  Option.bind (spec_firstCon N p0 (Sh.w (q3 - 1))) fun q10 =>
  Option.bind (Sh.get c9.cons (Sh.w (p1 - q10))) fun c11 =>
  some c11.fields
def spec_consOf_L1 (N : Nat) (p0 : (List RDecl)) (p1 : Int) : Nat → Int → (List Int) → Option ((List Int))
 | 0, _, _ => none
 | n + 1, i12, l13 =>
  Option.bind (Sh.get p0 (Sh.w (p1 - 1))) fun c19 =>
  if (decide (i12 < (Sh.len c19.cons))) = true then
   Option.bind (spec_firstCon N p0 (Sh.w (p1 - 1))) fun q22 =>
   Option.bind (Sh.app l13 [Sh.w (q22 + i12)] 8) fun l23 =>
   spec_consOf_L1 N p0 p1 n (Sh.w (i12 + 1)) l23
  else
   some l13
def spec_consOf (N : Nat) (p0 : (List RDecl)) (p1 : Int) : Option ((List Int)) :=
 Option.bind (spec_inRange p1 1 (Sh.len p0)) fun q5 =>
 if (!q5) = true then
  some []
 else
  Option.bind (spec_consOf_L1 N p0 p1 N 0 []) fun l14 =>
  some l14
def impl_isType (p0 : (List RDecl)) (p1 : Int) : Option (Bool) :=
 Option.bind (
  if (decide (0 ≤ p1)) = true then
   some (decide (p1 ≤ (Sh.len p0)))
  else
   some false
 ) fun t3 =>
 some t3
def impl_allTypes_L1 (p0 : (List RDecl)) (p1 : (List Int)) : Nat → Int → Option ((Bool) ⊕ (Unit))
 | 0, _ => none
 | n + 1, t4 =>
  if (decide (t4 < (Sh.len p1))) = true then
   Option.bind (Sh.get p1 t4) fun c12 =>
   Option.bind (impl_isType p0 c12) fun q14 =>
   if (!q14) = true then
    some (Sum.inl false)
   else
    impl_allTypes_L1 p0 p1 n (Sh.w (t4 + 1))
  else
   some (Sum.inr ())
def impl_allTypes (N : Nat) (p0 : (List RDecl)) (p1 : (List Int)) : Option (Bool) :=
 Sh.cont (impl_allTypes_L1 p0 p1 N 0) (id) fun () =>
 some true
def impl_ValidTypes_L3 (c16 : RDecl) (l28 : (List RDecl)) : Nat → Int → Option ((Bool) ⊕ (Unit))
 | 0, _ => none
 | n + 1, t29 =>
  if (decide (t29 < (Sh.len l28))) = true then
   Option.bind (Sh.get l28 t29) fun c36 =>
   Option.bind (
    if (decide ((Sh.len c16.cons) = 0)) = true then
     if (decide ((Sh.len c36.cons) = 0)) = true then
      if (decide (c36.from_ = c16.from_)) = true then
       some (decide (c36.to = c16.to))
      else
       some false
     else
      some false
    else
     some false
   ) fun t38 =>
   if t38 = true then
    some (Sum.inl false)
   else
    impl_ValidTypes_L3 c16 l28 n (Sh.w (t29 + 1))
  else
   some (Sum.inr ())
def impl_ValidTypes_L2 (N : Nat) (c16 : RDecl) (p0 : (List RDecl)) : Nat → Int → Option ((Bool) ⊕ (Unit))
 | 0, _ => none
 | n + 1, t25 =>
  if (decide (t25 < (Sh.len c16.cons))) = true then
   Option.bind (Sh.get c16.cons t25) fun c50 =>
   Option.bind (
    if (decide (3 < (Sh.len c50.fields))) = true then
     some true
    else
     Option.bind (impl_allTypes N p0 c50.fields) fun q57 =>
     some (!q57)
   ) fun t52 =>
   if t52 = true then
    some (Sum.inl false)
   else
    impl_ValidTypes_L2 N c16 p0 n (Sh.w (t25 + 1))
  else
   some (Sum.inr ())
def impl_ValidTypes_L1 (N : Nat) (p0 : (List RDecl)) : Nat → Int → Option ((Bool) ⊕ (Unit))
 | 0, _ => none
 | n + 1, t8 =>
  if (decide (t8 < (Sh.len p0))) = true then
   Option.bind (Sh.get p0 t8) fun c16 =>
   Option.bind (
    Option.bind (impl_isType p0 c16.from_) fun q58 =>
    if (!q58) = true then
     some true
    else
     Option.bind (impl_isType p0 c16.to) fun q60 =>
     if (!q60) = true then
      some true
     else
     if (decide (3 < (Sh.len c16.cons))) = true then
      some true
     else
     if (decide (0 < (Sh.len c16.cons))) = true then
      if (!decide (c16.from_ = 0)) = true then
       some true
      else
       some (!decide (c16.to = 0))
     else
      some false
   ) fun t19 =>
   if t19 = true then
    some (Sum.inl false)
   else
    Sh.cont (impl_ValidTypes_L2 N c16 p0 N 0) (fun x => Sum.inl x) fun () =>
    Option.bind (Sh.sl p0 0 t8) fun l28 =>
    Sh.cont (impl_ValidTypes_L3 c16 l28 N 0) (fun x => Sum.inl x) fun () =>
    impl_ValidTypes_L1 N p0 n (Sh.w (t8 + 1))
  else
   some (Sum.inr ())
def impl_ValidTypes (N : Nat) (p0 : (List RDecl)) : Option (Bool) :=
 if (decide (4 < (Sh.len p0))) = true then
  some false
 else
  Sh.cont (impl_ValidTypes_L1 N p0 N 0) (id) fun () =>
  some true
def impl_validSigs_L2 (c18 : RSignature) : Nat → Int → Option ((Bool) ⊕ (Unit))
 | 0, _ => none
 | n + 1, t26 =>
  if (decide (t26 < (Sh.len c18.lent))) = true then
   Option.bind (Sh.get c18.lent t26) fun c33 =>
   Option.bind (
    if (decide (c33 < 0)) = true then
     some true
    else
    if (decide ((Sh.len c18.params) ≤ c33)) = true then
     some true
    else
     Option.bind (Sh.get c18.params c33) fun c41 =>
     if (decide (c41 = 0)) = true then
      some true
     else
     if (decide (0 < t26)) = true then
      Option.bind (Sh.get c18.lent (Sh.w (t26 - 1))) fun c44 =>
      some (decide (c33 ≤ c44))
     else
      some false
   ) fun t35 =>
   if t35 = true then
    some (Sum.inl false)
   else
    impl_validSigs_L2 c18 n (Sh.w (t26 + 1))
  else
   some (Sum.inr ())
def impl_validSigs_L1 (N : Nat) (p0 : (List RDecl)) (p1 : (List RSignature)) : Nat → Int → Option ((Bool) ⊕ (Unit))
 | 0, _ => none
 | n + 1, t10 =>
  if (decide (t10 < (Sh.len p1))) = true then
   Option.bind (Sh.get p1 t10) fun c18 =>
   Option.bind (
    if (decide (3 < (Sh.len c18.params))) = true then
     some true
    else
     Option.bind (impl_allTypes N p0 c18.params) fun q46 =>
     if (!q46) = true then
      some true
     else
      Option.bind (impl_isType p0 c18.result) fun q48 =>
      some (!q48)
   ) fun t21 =>
   if t21 = true then
    some (Sum.inl false)
   else
    Sh.cont (impl_validSigs_L2 c18 N 0) (fun x => Sum.inl x) fun () =>
    impl_validSigs_L1 N p0 p1 n (Sh.w (t10 + 1))
  else
   some (Sum.inr ())
def impl_validSigs (N : Nat) (p0 : (List RDecl)) (p1 : (List RSignature)) : Option (Bool) :=
 Option.bind (
  Option.bind (impl_ValidTypes N p0) fun q49 =>
  if (!q49) = true then
   some true
  else
  if (decide ((Sh.len p1) < 1)) = true then
   some true
  else
  if (decide (4 < (Sh.len p1))) = true then
   some true
  else
   Option.bind (Sh.get p1 0) fun c53 =>
   if (decide (0 < (Sh.len c53.params))) = true then
    some true
   else
    some (!decide (c53.result = 0))
 ) fun t4 =>
 if t4 = true then
  some false
 else
  Sh.cont (impl_validSigs_L1 N p0 p1 N 0) (id) fun () =>
  some true
def impl_conCount_L1 (p0 : (List RDecl)) : Nat → Int → Int → Option (Int)
 | 0, _, _ => none
 | n + 1, n5, t6 =>
  if (decide (t6 < (Sh.len p0))) = true then
   Option.bind (Sh.get p0 t6) fun c15 =>
   impl_conCount_L1 p0 n (Sh.w (n5 + (Sh.len c15.cons))) (Sh.w (t6 + 1))
  else
   some n5
def impl_conCount (N : Nat) (p0 : (List RDecl)) : Option (Int) :=
 Option.bind (impl_conCount_L1 p0 N 0 0) fun n7 =>
 some n7
def impl_consOf_L1 (c14 : RDecl) (q10 : Int) : Nat → Int → (List Int) → Option ((List Int))
 | 0, _, _ => none
 | n + 1, t15, l16 =>
  if (decide (t15 < (Sh.len c14.cons))) = true then
   Option.bind (Sh.app l16 [Sh.w (q10 + t15)] 8) fun l25 =>
   impl_consOf_L1 c14 q10 n (Sh.w (t15 + 1)) l25
  else
   some l16
def impl_consOf (N : Nat) (p0 : (List RDecl)) (p1 : Int) : Option ((List Int)) :=
 Option.bind (
  if (decide (p1 < 1)) = true then
   some true
  else
   some (decide ((Sh.len p0) < p1))
 ) fun t4 =>
 if t4 = true then
  some []
 else
  Option.bind (Sh.sl p0 0 (Sh.w (p1 - 1))) fun l9 =>
  Option.bind (impl_conCount N l9) fun q10 =>
  Option.bind (Sh.get p0 (Sh.w (p1 - 1))) fun c14 =>
  Option.bind (impl_consOf_L1 c14 q10 N 0 []) fun l17 =>
  some l17
def impl_conAt_L1 (p0 : (List RDecl)) : Nat → Int → Int → Option ((Int × RCon) ⊕ (Unit))
 | 0, _, _ => none
 | n + 1, c4, t5 =>
  if (decide (t5 < (Sh.len p0))) = true then
   Option.bind (Sh.get p0 t5) fun c13 =>
   Option.bind (
    if (decide (0 ≤ c4)) = true then
     some (decide (c4 < (Sh.len c13.cons)))
    else
     some false
   ) fun t16 =>
   if t16 = true then
    Option.bind (Sh.get c13.cons c4) fun c20 =>
    some (Sum.inl (Sh.w (t5 + 1), c20))
   else
    impl_conAt_L1 p0 n (Sh.w (c4 - (Sh.len c13.cons))) (Sh.w (t5 + 1))
  else
   some (Sum.inr ())
def impl_conAt (N : Nat) (p0 : (List RDecl)) (p1 : Int) : Option (Int × RCon) :=
 Sh.cont (impl_conAt_L1 p0 N p1 0) (id) fun () =>
 some (-1, (RCon.mk []))
def impl_fieldsOf (N : Nat) (p0 : (List RDecl)) (p1 : Int) : Option ((List Int)) :=
 Option.bind (impl_conAt N p0 p1) fun q3 =>
 some q3.2.fields
def laws_eqCon (N : Nat) (p0 : RCon) (p1 : RCon) : Option (Bool) :=
 Option.bind (laws_eqIntS N p0.fields p1.fields) fun q4 =>
 if (!q4) = true then
  some false
 else
  some true
def laws_eqConS_L1 (N : Nat) (p0 : (List RCon)) (p1 : (List RCon)) : Nat → Int → Option ((Bool) ⊕ (Unit))
 | 0, _ => none
 | n + 1, i10 =>
  if (decide (i10 < (Sh.len p0))) = true then
   Option.bind (Sh.get p0 i10) fun c18 =>
   Option.bind (Sh.get p1 i10) fun c19 =>
   Option.bind (laws_eqCon N c18 c19) fun q20 =>
   if (!q20) = true then
    some (Sum.inl false)
   else
    laws_eqConS_L1 N p0 p1 n (Sh.w (i10 + 1))
  else
   some (Sum.inr ())
def laws_eqConS (N : Nat) (p0 : (List RCon)) (p1 : (List RCon)) : Option (Bool) :=
 if (!decide ((Sh.len p0) = (Sh.len p1))) = true then
  some false
 else
  Sh.cont (laws_eqConS_L1 N p0 p1 N 0) (id) fun () =>
  some true
def laws_eqDecl (N : Nat) (p0 : RDecl) (p1 : RDecl) : Option (Bool) :=
 if (!decide (p0.from_ = p1.from_)) = true then
  some false
 else
 if (!decide (p0.to = p1.to)) = true then
  some false
 else
  Option.bind (laws_eqConS N p0.cons p1.cons) fun q16 =>
  if (!q16) = true then
   some false
  else
   some true
def laws_eqDeclS_L1 (N : Nat) (p0 : (List RDecl)) (p1 : (List RDecl)) : Nat → Int → Option ((Bool) ⊕ (Unit))
 | 0, _ => none
 | n + 1, i10 =>
  if (decide (i10 < (Sh.len p0))) = true then
   Option.bind (Sh.get p0 i10) fun c18 =>
   Option.bind (Sh.get p1 i10) fun c19 =>
   Option.bind (laws_eqDecl N c18 c19) fun q20 =>
   if (!q20) = true then
    some (Sum.inl false)
   else
    laws_eqDeclS_L1 N p0 p1 n (Sh.w (i10 + 1))
  else
   some (Sum.inr ())
def laws_eqDeclS (N : Nat) (p0 : (List RDecl)) (p1 : (List RDecl)) : Option (Bool) :=
 if (!decide ((Sh.len p0) = (Sh.len p1))) = true then
  some false
 else
  Sh.cont (laws_eqDeclS_L1 N p0 p1 N 0) (id) fun () =>
  some true
end RC


namespace RC
end RC


namespace RC
def laws_szExprS_L1 (p0 : (List RExpr)) (rec_laws_szExpr : RExpr → Int → Option (Int)) : Nat → Int → Int → Option ((Int) ⊕ (Int))
 | 0, _, _ => none
 | n + 1, left9, i10 =>
  if (decide (i10 < (Sh.len p0))) = true then
   Option.bind (Sh.get p0 i10) fun c19 =>
   Option.bind (rec_laws_szExpr c19 left9) fun q20 =>
   if (decide (q20 < 0)) = true then
    some (Sum.inl (-1))
   else
    laws_szExprS_L1 p0 rec_laws_szExpr n q20 (Sh.w (i10 + 1))
  else
   some (Sum.inr left9)
def laws_szExprS (N : Nat) (rec_laws_szExpr : RExpr → Int → Option (Int)) (p0 : (List RExpr)) (p1 : Int) : Option (Int) :=
 if (decide ((Sh.w (p1 - (Sh.len p0))) < 0)) = true then
  some (-1)
 else
  Sh.cont (laws_szExprS_L1 p0 rec_laws_szExpr N (Sh.w (p1 - (Sh.len p0))) 0) (id) fun left11 =>
  some left11
def laws_szExpr_B (N : Nat) (rec_laws_szExpr : RExpr → Int → Option (Int)) (p0 : RExpr) (p1 : Int) : Option (Int) :=
 Option.bind (laws_szExprS N rec_laws_szExpr p0.kids p1) fun q3 =>
 if (decide (q3 < 0)) = true then
  some (-1)
 else
  some q3
def laws_szExpr_F (N : Nat) : Nat → RExpr → Int → Option (Int)
 | 0, _, _ => none
 | n + 1, p0, p1 => laws_szExpr_B N (laws_szExpr_F N n) p0 p1
def laws_szExpr (N : Nat) (p0 : RExpr) (p1 : Int) : Option (Int) := laws_szExpr_F N N p0 p1
def laws_szFunc (N : Nat) (p0 : RFunc) (p1 : Int) : Option (Int) :=
 Option.bind (laws_szIntS p0.params p1) fun q3 =>
 if (decide (q3 < 0)) = true then
  some (-1)
 else
  Option.bind (laws_szExpr N p0.body q3) fun q9 =>
  if (decide (q9 < 0)) = true then
   some (-1)
  else
   some q9
def laws_szFuncS_L1 (N : Nat) (p0 : (List RFunc)) : Nat → Int → Int → Option ((Int) ⊕ (Int))
 | 0, _, _ => none
 | n + 1, left9, i10 =>
  if (decide (i10 < (Sh.len p0))) = true then
   Option.bind (Sh.get p0 i10) fun c19 =>
   Option.bind (laws_szFunc N c19 left9) fun q20 =>
   if (decide (q20 < 0)) = true then
    some (Sum.inl (-1))
   else
    laws_szFuncS_L1 N p0 n q20 (Sh.w (i10 + 1))
  else
   some (Sum.inr left9)
def laws_szFuncS (N : Nat) (p0 : (List RFunc)) (p1 : Int) : Option (Int) :=
 if (decide ((Sh.w (p1 - (Sh.len p0))) < 0)) = true then
  some (-1)
 else
  Sh.cont (laws_szFuncS_L1 N p0 N (Sh.w (p1 - (Sh.len p0))) 0) (id) fun left11 =>
  some left11
def laws_szProgram (N : Nat) (p0 : RProgram) (p1 : Int) : Option (Int) :=
 Option.bind (laws_szDeclS N p0.decls p1) fun q3 =>
 if (decide (q3 < 0)) = true then
  some (-1)
 else
  Option.bind (laws_szFuncS N p0.funcs q3) fun q9 =>
  if (decide (q9 < 0)) = true then
   some (-1)
  else
   some q9
def laws_toExprS_L1 (p0 : (List RExpr)) (rec_laws_toExpr : RExpr → Option (RExpr)) : Nat → Int → (List RExpr) → Option ((List RExpr))
 | 0, _, _ => none
 | n + 1, i6, l7 =>
  if (decide (i6 < (Sh.len p0))) = true then
   Option.bind (Sh.get p0 i6) fun c15 =>
   Option.bind (rec_laws_toExpr c15) fun q16 =>
   Option.bind (Sh.get l7 i6) fun c17 =>
   laws_toExprS_L1 p0 rec_laws_toExpr n (Sh.w (i6 + 1)) (Sh.put l7 i6 q16)
  else
   some l7
def laws_toExprS (N : Nat) (rec_laws_toExpr : RExpr → Option (RExpr)) (p0 : (List RExpr)) : Option ((List RExpr)) :=
 Option.bind (Sh.mk (RExpr.mk 0 0 []) (Sh.len p0) 40) fun l3 =>
 Option.bind (laws_toExprS_L1 p0 rec_laws_toExpr N 0 l3) fun l8 =>
 some l8
def laws_toExpr_B (N : Nat) (rec_laws_toExpr : RExpr → Option (RExpr)) (p0 : RExpr) : Option (RExpr) :=
 Option.bind (laws_toExprS N rec_laws_toExpr p0.kids) fun q6 =>
 some (RExpr.mk p0.op p0.num q6)
def laws_toExpr_F (N : Nat) : Nat → RExpr → Option (RExpr)
 | 0, _ => none
 | n + 1, p0 => laws_toExpr_B N (laws_toExpr_F N n) p0
def laws_toExpr (N : Nat) (p0 : RExpr) : Option (RExpr) := laws_toExpr_F N N p0
def laws_toFunc (N : Nat) (p0 : RFunc) : Option (RFunc) :=
 Option.bind (laws_toIntS N p0.params) fun q4 =>
 Option.bind (laws_toExpr N p0.body) fun q7 =>
 some (RFunc.mk q4 p0.result q7)
def laws_toFuncS_L1 (N : Nat) (p0 : (List RFunc)) : Nat → Int → (List RFunc) → Option ((List RFunc))
 | 0, _, _ => none
 | n + 1, i6, l7 =>
  if (decide (i6 < (Sh.len p0))) = true then
   Option.bind (Sh.get p0 i6) fun c15 =>
   Option.bind (laws_toFunc N c15) fun q16 =>
   Option.bind (Sh.get l7 i6) fun c17 =>
   laws_toFuncS_L1 N p0 n (Sh.w (i6 + 1)) (Sh.put l7 i6 q16)
  else
   some l7
def laws_toFuncS (N : Nat) (p0 : (List RFunc)) : Option ((List RFunc)) :=
 Option.bind (Sh.mk (RFunc.mk [] 0 (RExpr.mk 0 0 [])) (Sh.len p0) 72) fun l3 =>
 Option.bind (laws_toFuncS_L1 N p0 N 0 l3) fun l8 =>
 some l8
def laws_toProgram (N : Nat) (p0 : RProgram) : Option (RProgram) :=
 Option.bind (laws_toDeclS N p0.decls) fun q4 =>
 Option.bind (laws_toFuncS N p0.funcs) fun q6 =>
 some (RProgram.mk q4 q6)
def spec_nodesLeft_B_L1 (p0 : RExpr) (rec_spec_nodesLeft : RExpr → Int → Option (Int)) : Nat → Int → Int → Option ((Int) ⊕ (Int))
 | 0, _, _ => none
 | n + 1, left9, i10 =>
  if (decide (i10 < (Sh.len p0.kids))) = true then
   Option.bind (Sh.get p0.kids i10) fun c19 =>
   Option.bind (rec_spec_nodesLeft c19 left9) fun q20 =>
   if (decide (q20 < 0)) = true then
    some (Sum.inl (-1))
   else
    spec_nodesLeft_B_L1 p0 rec_spec_nodesLeft n q20 (Sh.w (i10 + 1))
  else
   some (Sum.inr left9)
def spec_nodesLeft_B (N : Nat) (rec_spec_nodesLeft : RExpr → Int → Option (Int)) (p0 : RExpr) (p1 : Int) : Option (Int) :=
 if (decide (p1 < 1)) = true then
  some (-1)
 else
  Sh.cont (spec_nodesLeft_B_L1 p0 rec_spec_nodesLeft N (Sh.w (p1 - 1)) 0) (id) fun left11 =>
  some left11
def spec_nodesLeft_F (N : Nat) : Nat → RExpr → Int → Option (Int)
 | 0, _, _ => none
 | n + 1, p0, p1 => spec_nodesLeft_B N (spec_nodesLeft_F N n) p0 p1
def spec_nodesLeft (N : Nat) (p0 : RExpr) (p1 : Int) : Option (Int) := spec_nodesLeft_F N N p0 p1
def spec_nodesOf (N : Nat) (p0 : RExpr) : Option (Int) :=
 Option.bind (spec_nodesLeft N p0 30) fun q3 =>
 if (decide (q3 < 0)) = true then
  some (-1)
 else
  some (Sh.w (30 - q3))
def spec_allInts_L1 (p0 : RProgram) (p1 : (List Int)) (p2 : (List RExpr)) (p3 : Int) (rec_spec_typeOf : RProgram → (List Int) → RExpr → Option (Int)) : Nat → Int → Option ((Bool) ⊕ (Unit))
 | 0, _ => none
 | n + 1, i10 =>
  if (decide (i10 < p3)) = true then
   Option.bind (Sh.get p2 i10) fun c18 =>
   Option.bind (rec_spec_typeOf p0 p1 c18) fun q19 =>
   if (!decide (q19 = 0)) = true then
    some (Sum.inl false)
   else
    spec_allInts_L1 p0 p1 p2 p3 rec_spec_typeOf n (Sh.w (i10 + 1))
  else
   some (Sum.inr ())
def spec_allInts (N : Nat) (rec_spec_typeOf : RProgram → (List Int) → RExpr → Option (Int)) (p0 : RProgram) (p1 : (List Int)) (p2 : (List RExpr)) (p3 : Int) : Option (Bool) :=
 if (!decide ((Sh.len p2) = p3)) = true then
  some false
 else
  Sh.cont (spec_allInts_L1 p0 p1 p2 p3 rec_spec_typeOf N 0) (id) fun () =>
  some true
def spec_allOf_L1 (p0 : RProgram) (p1 : (List Int)) (p2 : (List RExpr)) (p3 : (List Int)) (rec_spec_typeOf : RProgram → (List Int) → RExpr → Option (Int)) : Nat → Int → Option ((Bool) ⊕ (Unit))
 | 0, _ => none
 | n + 1, i10 =>
  if (decide (i10 < (Sh.len p3))) = true then
   Option.bind (Sh.get p2 i10) fun c18 =>
   Option.bind (rec_spec_typeOf p0 p1 c18) fun q19 =>
   Option.bind (Sh.get p3 i10) fun c20 =>
   if (!decide (q19 = c20)) = true then
    some (Sum.inl false)
   else
    spec_allOf_L1 p0 p1 p2 p3 rec_spec_typeOf n (Sh.w (i10 + 1))
  else
   some (Sum.inr ())
def spec_allOf (N : Nat) (rec_spec_typeOf : RProgram → (List Int) → RExpr → Option (Int)) (p0 : RProgram) (p1 : (List Int)) (p2 : (List RExpr)) (p3 : (List Int)) : Option (Bool) :=
 if (!decide ((Sh.len p2) = (Sh.len p3))) = true then
  some false
 else
  Sh.cont (spec_allOf_L1 p0 p1 p2 p3 rec_spec_typeOf N 0) (id) fun () =>
  some true
def spec_copyInts (p0 : (List Int)) : Option ((List Int)) :=
 Option.bind (Sh.app ([] : List Int) p0 8) fun l3 =>
 some l3
def spec_extend (p0 : (List Int)) (p1 : (List Int)) : Option ((List Int)) :=
 Option.bind (spec_copyInts p0) fun q3 =>
 Option.bind (Sh.app q3 p1 8) fun l4 =>
 some l4
def spec_matchType_L1 (N : Nat) (p0 : RProgram) (p1 : (List Int)) (p2 : RExpr) (q15 : Int) (q3 : (List Int)) (rec_spec_typeOf : RProgram → (List Int) → RExpr → Option (Int)) : Nat → Int → Option ((Int) ⊕ (Unit))
 | 0, _ => none
 | n + 1, i18 =>
  if (decide (i18 < (Sh.len q3))) = true then
   Option.bind (Sh.get q3 i18) fun c26 =>
   Option.bind (spec_conFields N p0.decls c26) fun q27 =>
   Option.bind (spec_extend p1 q27) fun q28 =>
   Option.bind (Sh.get p2.kids (Sh.w (1 + i18))) fun c29 =>
   Option.bind (rec_spec_typeOf p0 q28 c29) fun q30 =>
   if (!decide (q30 = q15)) = true then
    some (Sum.inl (-1))
   else
    spec_matchType_L1 N p0 p1 p2 q15 q3 rec_spec_typeOf n (Sh.w (i18 + 1))
  else
   some (Sum.inr ())
def spec_matchType (N : Nat) (rec_spec_typeOf : RProgram → (List Int) → RExpr → Option (Int)) (p0 : RProgram) (p1 : (List Int)) (p2 : RExpr) : Option (Int) :=
 Option.bind (spec_consOf N p0.decls p2.num) fun q3 =>
 Option.bind (
  if (decide ((Sh.len q3) = 0)) = true then
   some true
  else
  if (!decide ((Sh.len p2.kids) = (Sh.w (1 + (Sh.len q3))))) = true then
   some true
  else
   Option.bind (Sh.get p2.kids 0) fun c37 =>
   Option.bind (rec_spec_typeOf p0 p1 c37) fun q38 =>
   some (!decide (q38 = p2.num))
 ) fun t6 =>
 if t6 = true then
  some (-1)
 else
  Option.bind (Sh.get q3 0) fun c11 =>
  Option.bind (spec_conFields N p0.decls c11) fun q12 =>
  Option.bind (spec_extend p1 q12) fun q13 =>
  Option.bind (Sh.get p2.kids 1) fun c14 =>
  Option.bind (rec_spec_typeOf p0 q13 c14) fun q15 =>
  Sh.cont (spec_matchType_L1 N p0 p1 p2 q15 q3 rec_spec_typeOf N 1) (id) fun () =>
  some q15
def spec_arrowOf_L1 (p0 : (List RDecl)) (p1 : Int) (p2 : Int) : Nat → Int → Option ((Int) ⊕ (Unit))
 | 0, _ => none
 | n + 1, i4 =>
  if (decide (i4 < (Sh.len p0))) = true then
   Option.bind (
    Option.bind (Sh.get p0 i4) fun c16 =>
    if (decide ((Sh.len c16.cons) = 0)) = true then
     if (decide (c16.from_ = p1)) = true then
      some (decide (c16.to = p2))
     else
      some false
    else
     some false
   ) fun t12 =>
   if t12 = true then
    some (Sum.inl (Sh.w (i4 + 1)))
   else
    spec_arrowOf_L1 p0 p1 p2 n (Sh.w (i4 + 1))
  else
   some (Sum.inr ())
def spec_arrowOf (N : Nat) (p0 : (List RDecl)) (p1 : Int) (p2 : Int) : Option (Int) :=
 Sh.cont (spec_arrowOf_L1 p0 p1 p2 N 0) (id) fun () =>
 some (-1)
def spec_callType (N : Nat) (rec_spec_typeOf : RProgram → (List Int) → RExpr → Option (Int)) (p0 : RProgram) (p1 : (List Int)) (p2 : RExpr) : Option (Int) :=
 Option.bind (spec_inRange p2.num 0 (Sh.w ((Sh.len p0.funcs) - 1))) fun q4 =>
 if (!q4) = true then
  some (-1)
 else
  Option.bind (Sh.get p0.funcs p2.num) fun c10 =>
  if (decide (p2.op = 9)) = true then
   Option.bind (spec_allOf N rec_spec_typeOf p0 p1 p2.kids c10.params) fun q17 =>
   if (!q17) = true then
    some (-1)
   else
    some c10.result
  else
   Option.bind (
    if (decide ((Sh.len c10.params) = 0)) = true then
     some true
    else
     Option.bind (Sh.sl c10.params 0 (Sh.w ((Sh.len c10.params) - 1))) fun l33 =>
     Option.bind (spec_allOf N rec_spec_typeOf p0 p1 p2.kids l33) fun q34 =>
     some (!q34)
   ) fun t25 =>
   if t25 = true then
    some (-1)
   else
    Option.bind (Sh.get c10.params (Sh.w ((Sh.len c10.params) - 1))) fun c30 =>
    Option.bind (spec_arrowOf N p0.decls c30 c10.result) fun q31 =>
    some q31
def spec_isArrow (p0 : (List RDecl)) (p1 : Int) : Option (Bool) :=
 Option.bind (
  Option.bind (spec_inRange p1 1 (Sh.len p0)) fun q5 =>
  if q5 = true then
   Option.bind (Sh.get p0 (Sh.w (p1 - 1))) fun c7 =>
   some (decide ((Sh.len c7.cons) = 0))
  else
   some false
 ) fun t3 =>
 some t3
def spec_typeOf_B (N : Nat) (rec_spec_typeOf : RProgram → (List Int) → RExpr → Option (Int)) (p0 : RProgram) (p1 : (List Int)) (p2 : RExpr) : Option (Int) :=
 Sh.cont (
  if (decide (p2.op = 0)) = true then
   Option.bind (
    if (decide ((Sh.len p2.kids) = 0)) = true then
     Option.bind (spec_inRange p2.num (-999) 999) fun q15 =>
     some q15
    else
     some false
   ) fun t10 =>
   if t10 = true then
    some (Sum.inl 0)
   else
    some (Sum.inr ())
  else
  if (decide (p2.op = 12)) = true then
   Option.bind (
    if (decide ((Sh.len p2.kids) = 0)) = true then
     Option.bind (spec_inRange p2.num 0 (Sh.w ((Sh.len p1) - 1))) fun q25 =>
     some q25
    else
     some false
   ) fun t19 =>
   if t19 = true then
    Option.bind (Sh.get p1 p2.num) fun c23 =>
    some (Sum.inl c23)
   else
    some (Sum.inr ())
  else
   Option.bind (
    if (decide (p2.op = 1)) = true then
     some true
    else
    if (decide (p2.op = 2)) = true then
     some true
    else
    if (decide (p2.op = 3)) = true then
     some true
    else
     some (decide (p2.op = 4))
   ) fun t27 =>
   if t27 = true then
    Option.bind (
     if (decide (p2.num = 0)) = true then
      Option.bind (spec_allInts N rec_spec_typeOf p0 p1 p2.kids 2) fun q36 =>
      some q36
     else
      some false
    ) fun t31 =>
    if t31 = true then
     some (Sum.inl 0)
    else
     some (Sum.inr ())
   else
   if (decide (p2.op = 5)) = true then
    Option.bind (
     if (decide (p2.num = 0)) = true then
      Option.bind (spec_allInts N rec_spec_typeOf p0 p1 p2.kids 1) fun q45 =>
      some q45
     else
      some false
    ) fun t40 =>
    if t40 = true then
     some (Sum.inl 0)
    else
     some (Sum.inr ())
   else
   if (decide (p2.op = 6)) = true then
    Option.bind (
     Option.bind (spec_conType N p0.decls p2.num) fun q54 =>
     if (decide (0 < q54)) = true then
      Option.bind (spec_conFields N p0.decls p2.num) fun q56 =>
      Option.bind (spec_allOf N rec_spec_typeOf p0 p1 p2.kids q56) fun q57 =>
      some q57
     else
      some false
    ) fun t49 =>
    if t49 = true then
     Option.bind (spec_conType N p0.decls p2.num) fun q53 =>
     some (Sum.inl q53)
    else
     some (Sum.inr ())
   else
   if (decide (p2.op = 13)) = true then
    Option.bind (
     if (decide (p2.num = 0)) = true then
      some (decide ((Sh.len p2.kids) = 2))
     else
      some false
    ) fun t61 =>
    if t61 = true then
     Option.bind (Sh.get p2.kids 0) fun c65 =>
     Option.bind (rec_spec_typeOf p0 p1 c65) fun q66 =>
     if (decide (0 ≤ q66)) = true then
      Option.bind (spec_extend p1 [q66]) fun q70 =>
      Option.bind (Sh.get p2.kids 1) fun c71 =>
      Option.bind (rec_spec_typeOf p0 q70 c71) fun q72 =>
      some (Sum.inl q72)
     else
      some (Sum.inr ())
    else
     some (Sum.inr ())
   else
   if (decide (p2.op = 7)) = true then
    Option.bind (
     if (decide (p2.num = 0)) = true then
      if (decide ((Sh.len p2.kids) = 3)) = true then
       Option.bind (Sh.get p2.kids 0) fun c90 =>
       Option.bind (rec_spec_typeOf p0 p1 c90) fun q91 =>
       some (decide (q91 = 0))
      else
       some false
     else
      some false
    ) fun t77 =>
    if t77 = true then
     Option.bind (Sh.get p2.kids 1) fun c81 =>
     Option.bind (rec_spec_typeOf p0 p1 c81) fun q82 =>
     Option.bind (Sh.get p2.kids 2) fun c84 =>
     Option.bind (rec_spec_typeOf p0 p1 c84) fun q85 =>
     if (decide (q85 = q82)) = true then
      some (Sum.inl q82)
     else
      some (Sum.inr ())
    else
     some (Sum.inr ())
   else
   if (decide (p2.op = 8)) = true then
    Option.bind (spec_matchType N rec_spec_typeOf p0 p1 p2) fun q95 =>
    some (Sum.inl q95)
   else
    Option.bind (
     if (decide (p2.op = 9)) = true then
      some true
     else
      some (decide (p2.op = 10))
    ) fun t97 =>
    if t97 = true then
     Option.bind (spec_callType N rec_spec_typeOf p0 p1 p2) fun q101 =>
     some (Sum.inl q101)
    else
    if (decide (p2.op = 11)) = true then
     Option.bind (
      if (decide (p2.num = 0)) = true then
       some (decide ((Sh.len p2.kids) = 2))
      else
       some false
     ) fun t105 =>
     if t105 = true then
      Option.bind (Sh.get p2.kids 0) fun c109 =>
      Option.bind (rec_spec_typeOf p0 p1 c109) fun q110 =>
      Option.bind (
       Option.bind (spec_isArrow p0.decls q110) fun q117 =>
       if q117 = true then
        Option.bind (Sh.get p2.kids 1) fun c119 =>
        Option.bind (rec_spec_typeOf p0 p1 c119) fun q120 =>
        Option.bind (Sh.get p0.decls (Sh.w (q110 - 1))) fun c121 =>
        some (decide (q120 = c121.from_))
       else
        some false
      ) fun t112 =>
      if t112 = true then
       Option.bind (Sh.get p0.decls (Sh.w (q110 - 1))) fun c116 =>
       some (Sum.inl c116.to)
      else
       some (Sum.inr ())
     else
      some (Sum.inr ())
    else
     some (Sum.inr ())
 ) (id) fun () =>
 some (-1)
def spec_typeOf_F (N : Nat) : Nat → RProgram → (List Int) → RExpr → Option (Int)
 | 0, _, _, _ => none
 | n + 1, p0, p1, p2 => spec_typeOf_B N (spec_typeOf_F N n) p0 p1 p2
def spec_typeOf (N : Nat) (p0 : RProgram) (p1 : (List Int)) (p2 : RExpr) : Option (Int) := spec_typeOf_F N N p0 p1 p2
def spec_validProgram_L1 (N : Nat) (p0 : RProgram) : Nat → Int → Option ((Bool) ⊕ (Unit))
 | 0, _ => none
 | n + 1, i11 =>
  if (decide (i11 < (Sh.len p0.funcs))) = true then
   Option.bind (
    Option.bind (Sh.get p0.funcs i11) fun c23 =>
    Option.bind (spec_nodesOf N c23.body) fun q24 =>
    if (decide (q24 < 0)) = true then
     some true
    else
     Option.bind (spec_typeOf N p0 c23.params c23.body) fun q26 =>
     some (!decide (q26 = c23.result))
   ) fun t19 =>
   if t19 = true then
    some (Sum.inl false)
   else
    spec_validProgram_L1 N p0 n (Sh.w (i11 + 1))
  else
   some (Sum.inr ())
def spec_validProgram (N : Nat) (p0 : RProgram) : Option (Bool) :=
 Option.bind (spec_validSigs N p0) fun q4 =>
 if (!q4) = true then
  some false
 else
  Sh.cont (spec_validProgram_L1 N p0 N 0) (id) fun () =>
  some true
def impl_ValidSigs_L1 (p0 : RProgram) : Nat → Int → (List RSignature) → Option ((List RSignature))
 | 0, _, _ => none
 | n + 1, t9, l10 =>
  if (decide (t9 < (Sh.len p0.funcs))) = true then
   Option.bind (Sh.get p0.funcs t9) fun c20 =>
   Option.bind (Sh.app l10 ([(RSignature.mk c20.params [] c20.result)]) 56) fun l21 =>
   impl_ValidSigs_L1 p0 n (Sh.w (t9 + 1)) l21
  else
   some l10
def impl_ValidSigs (N : Nat) (p0 : RProgram) : Option (Bool) :=
 if (decide (4 < (Sh.len p0.funcs))) = true then
  some false
 else
  Option.bind (impl_ValidSigs_L1 p0 N 0 []) fun l11 =>
  Option.bind (impl_validSigs N p0.decls l11) fun q14 =>
  some q14
def impl_countNodes_B_L1 (p0 : RExpr) (rec_impl_countNodes : Int → RExpr → Option (Bool × Int)) : Nat → Int → Int → Option ((Bool × Int) ⊕ (Int))
 | 0, _, _ => none
 | n + 1, t9, f10 =>
  if (decide (t9 < (Sh.len p0.kids))) = true then
   Option.bind (Sh.get p0.kids t9) fun c19 =>
   Option.bind (rec_impl_countNodes f10 c19) fun q21 =>
   if (!q21.1) = true then
    some (Sum.inl (false, q21.2))
   else
    impl_countNodes_B_L1 p0 rec_impl_countNodes n (Sh.w (t9 + 1)) q21.2
  else
   some (Sum.inr f10)
def impl_countNodes_B (N : Nat) (rec_impl_countNodes : Int → RExpr → Option (Bool × Int)) (s0_0 : Int) (p0 : RExpr) : Option (Bool × Int) :=
 if (decide (30 < (Sh.w (s0_0 + 1)))) = true then
  some (false, Sh.w (s0_0 + 1))
 else
  Sh.cont (impl_countNodes_B_L1 p0 rec_impl_countNodes N 0 (Sh.w (s0_0 + 1))) (id) fun f11 =>
  some (true, f11)
def impl_countNodes_F (N : Nat) : Nat → Int → RExpr → Option (Bool × Int)
 | 0, _, _ => none
 | n + 1, s0_0, p0 => impl_countNodes_B N (impl_countNodes_F N n) s0_0 p0
def impl_countNodes (N : Nat) (s0_0 : Int) (p0 : RExpr) : Option (Bool × Int) := impl_countNodes_F N N s0_0 p0
def impl_NodesOf (N : Nat) (p0 : RExpr) : Option (Int) :=
 Option.bind (impl_countNodes N 0 p0) fun q5 =>
 if (!q5.1) = true then
  some (-1)
 else
  some q5.2
def impl_sigsOf_L1 (p0 : RProgram) : Nat → Int → (List RSignature) → Option ((List RSignature))
 | 0, _, _ => none
 | n + 1, t5, l6 =>
  if (decide (t5 < (Sh.len p0.funcs))) = true then
   Option.bind (Sh.get p0.funcs t5) fun c15 =>
   Option.bind (Sh.app l6 ([(RSignature.mk c15.params [] c15.result)]) 56) fun l16 =>
   impl_sigsOf_L1 p0 n (Sh.w (t5 + 1)) l16
  else
   some l6
def impl_sigsOf (N : Nat) (p0 : RProgram) : Option (RSignatures) :=
 Option.bind (impl_sigsOf_L1 p0 N 0 []) fun l7 =>
 some (RSignatures.mk p0.decls l7)
def slices_Grow_int_int (p1 : Int) : Option ((List Int)) :=
 if (decide (p1 < 0)) = true then
  none
 else
  Option.bind (
   if (decide (0 < (Sh.w (p1 - (Sh.w (0 - 0)))))) = true then
    Option.bind (Sh.mk 0 (Sh.w (p1 - (Sh.w (0 - 0)))) 8) fun l12 =>
    Option.bind (Sh.hi l12 0) fun l13 =>
    some l13
   else
    some []
  ) fun l6 =>
  some l6
def slices_Concat_int_int_L2 (p0 : (List (List Int))) : Nat → Int → (List Int) → Option ((List Int))
 | 0, _, _ => none
 | n + 1, t13, l14 =>
  if (decide (t13 < (Sh.len p0))) = true then
   Option.bind (Sh.get p0 t13) fun c23 =>
   Option.bind (Sh.app l14 c23 8) fun l24 =>
   slices_Concat_int_int_L2 p0 n (Sh.w (t13 + 1)) l24
  else
   some l14
def slices_Concat_int_int_L1 (p0 : (List (List Int))) : Nat → Int → Int → Option (Int)
 | 0, _, _ => none
 | n + 1, size5, t6 =>
  if (decide (t6 < (Sh.len p0))) = true then
   Option.bind (Sh.get p0 t6) fun c30 =>
   if (decide ((Sh.w (size5 + (Sh.len c30))) < 0)) = true then
    none
   else
    slices_Concat_int_int_L1 p0 n (Sh.w (size5 + (Sh.len c30))) (Sh.w (t6 + 1))
  else
   some size5
def slices_Concat_int_int (N : Nat) (p0 : (List (List Int))) : Option ((List Int)) :=
 Option.bind (slices_Concat_int_int_L1 p0 N 0 0) fun size7 =>
 Option.bind (slices_Grow_int_int size7) fun q10 =>
 Option.bind (slices_Concat_int_int_L2 p0 N 0 q10) fun l15 =>
 some l15
def impl_signatures_oneType_L1 (N : Nat) (p0 : RSignatures) (p1 : (List Int)) (p2 : (List RExpr)) (p3 : (List (List Int))) (rec_impl_signatures_typeOf : (List Int) → RSignatures → RExpr → Option (Int)) : Nat → Int → Int → Option ((Int) ⊕ (Int))
 | 0, _, _ => none
 | n + 1, result5, t6 =>
  if (decide (t6 < (Sh.len p2))) = true then
   Option.bind (Sh.get p2 t6) fun c15 =>
   Option.bind (Sh.get p3 t6) fun c17 =>
   Option.bind (slices_Concat_int_int N [p1, c17]) fun q18 =>
   Option.bind (rec_impl_signatures_typeOf q18 p0 c15) fun q19 =>
   Option.bind (
    if (decide (q19 < 0)) = true then
     some true
    else
    if (decide (0 < t6)) = true then
     some (!decide (q19 = result5))
    else
     some false
   ) fun t23 =>
   if t23 = true then
    some (Sum.inl (-1))
   else
    impl_signatures_oneType_L1 N p0 p1 p2 p3 rec_impl_signatures_typeOf n q19 (Sh.w (t6 + 1))
  else
   some (Sum.inr result5)
def impl_signatures_oneType (N : Nat) (rec_impl_signatures_typeOf : (List Int) → RSignatures → RExpr → Option (Int)) (p0 : RSignatures) (p1 : (List Int)) (p2 : (List RExpr)) (p3 : (List (List Int))) : Option (Int) :=
 Sh.cont (impl_signatures_oneType_L1 N p0 p1 p2 p3 rec_impl_signatures_typeOf N (-1) 0) (id) fun result7 =>
 some result7
def impl_arrowAt (p0 : (List RDecl)) (p1 : Int) : Option (RDecl × Bool) :=
 Option.bind (
  if (decide (p1 < 1)) = true then
   some true
  else
  if (decide ((Sh.len p0) < p1)) = true then
   some true
  else
   Option.bind (Sh.get p0 (Sh.w (p1 - 1))) fun c12 =>
   some (decide (0 < (Sh.len c12.cons)))
 ) fun t4 =>
 if t4 = true then
  some ((RDecl.mk 0 0 []), false)
 else
  Option.bind (Sh.get p0 (Sh.w (p1 - 1))) fun c9 =>
  some (c9, true)
def slices_Equal_int_int_L1 (p0 : (List Int)) (p1 : (List Int)) : Nat → Int → Option ((Bool) ⊕ (Unit))
 | 0, _ => none
 | n + 1, t10 =>
  if (decide (t10 < (Sh.len p0))) = true then
   Option.bind (Sh.get p0 t10) fun c19 =>
   Option.bind (Sh.get p1 t10) fun c20 =>
   if (!decide (c19 = c20)) = true then
    some (Sum.inl false)
   else
    slices_Equal_int_int_L1 p0 p1 n (Sh.w (t10 + 1))
  else
   some (Sum.inr ())
def slices_Equal_int_int (N : Nat) (p0 : (List Int)) (p1 : (List Int)) : Option (Bool) :=
 if (!decide ((Sh.len p0) = (Sh.len p1))) = true then
  some false
 else
  Sh.cont (slices_Equal_int_int_L1 p0 p1 N 0) (id) fun () =>
  some true
def impl_arrowOf_L1 (p0 : (List RDecl)) (p1 : Int) (p2 : Int) : Nat → Int → Option ((Int) ⊕ (Unit))
 | 0, _ => none
 | n + 1, t4 =>
  if (decide (t4 < (Sh.len p0))) = true then
   Option.bind (Sh.get p0 t4) fun c12 =>
   Option.bind (
    if (decide ((Sh.len c12.cons) = 0)) = true then
     if (decide (c12.from_ = p1)) = true then
      some (decide (c12.to = p2))
     else
      some false
    else
     some false
   ) fun t14 =>
   if t14 = true then
    some (Sum.inl (Sh.w (t4 + 1)))
   else
    impl_arrowOf_L1 p0 p1 p2 n (Sh.w (t4 + 1))
  else
   some (Sum.inr ())
def impl_arrowOf (N : Nat) (p0 : (List RDecl)) (p1 : Int) (p2 : Int) : Option (Int) :=
 Sh.cont (impl_arrowOf_L1 p0 p1 p2 N 0) (id) fun () =>
 some (-1)
def impl_signatures_simpleType (N : Nat) (p0 : RSignatures) (p1 : Int) (p2 : Int) (p3 : (List Int)) : Option (Int × Bool) :=
 Sh.cont (
  if (decide (p1 = 0)) = true then
   Option.bind (
    if (decide ((-999) ≤ p2)) = true then
     if (decide (p2 ≤ 999)) = true then
      some (decide ((Sh.len p3) = 0))
     else
      some false
    else
     some false
   ) fun t15 =>
   some (Sum.inl (0, t15))
  else
   Option.bind (
    if (decide (p1 = 1)) = true then
     some true
    else
    if (decide (p1 = 2)) = true then
     some true
    else
    if (decide (p1 = 3)) = true then
     some true
    else
     some (decide (p1 = 4))
   ) fun t20 =>
   if t20 = true then
    some (Sum.inr [(0 : Int), 0])
   else
   if (decide (p1 = 5)) = true then
    some (Sum.inr [(0 : Int)])
   else
   if (decide (p1 = 11)) = true then
    if (!decide ((Sh.len p3) = 2)) = true then
     some (Sum.inl (-1, false))
    else
     Option.bind (Sh.get p3 0) fun c34 =>
     Option.bind (impl_arrowAt p0.decls c34) fun q35 =>
     Option.bind (
      if q35.2 = true then
       Option.bind (Sh.get p3 1) fun c41 =>
       if (decide (c41 = q35.1.from_)) = true then
        some (decide (p2 = 0))
       else
        some false
      else
       some false
     ) fun t38 =>
     some (Sum.inl (q35.1.to, t38))
   else
   if (decide (p1 = 6)) = true then
    Option.bind (impl_conAt N p0.decls p2) fun q40 =>
    Option.bind (
     if (decide (0 ≤ q40.1)) = true then
      Option.bind (slices_Equal_int_int N p3 q40.2.fields) fun q45 =>
      some q45
     else
      some false
    ) fun t42 =>
    some (Sum.inl (q40.1, t42))
   else
    Option.bind (
     if (decide (p1 = 9)) = true then
      some true
     else
      some (decide (p1 = 10))
    ) fun t47 =>
    if t47 = true then
     Option.bind (
      if (decide (p2 < 0)) = true then
       some true
      else
       some (decide ((Sh.len p0.funcs) ≤ p2))
     ) fun t52 =>
     if t52 = true then
      some (Sum.inl (-1, false))
     else
      Option.bind (Sh.get p0.funcs p2) fun c57 =>
      if (decide (p1 = 9)) = true then
       Option.bind (slices_Equal_int_int N p3 c57.params) fun q62 =>
       some (Sum.inl (c57.result, q62))
      else
      if (decide ((Sh.w ((Sh.len c57.params) - 1)) < 0)) = true then
       some (Sum.inl (-1, false))
      else
       Option.bind (Sh.get c57.params (Sh.w ((Sh.len c57.params) - 1))) fun c69 =>
       Option.bind (impl_arrowOf N p0.decls c69 c57.result) fun q70 =>
       Option.bind (
        if (decide (0 ≤ q70)) = true then
         Option.bind (Sh.sl c57.params 0 (Sh.w ((Sh.len c57.params) - 1))) fun l75 =>
         Option.bind (slices_Equal_int_int N p3 l75) fun q76 =>
         some q76
        else
         some false
       ) fun t72 =>
       some (Sum.inl (q70, t72))
    else
     some (Sum.inl (-1, false))
 ) (id) fun l4 =>
 Option.bind (
  if (decide (p2 = 0)) = true then
   Option.bind (slices_Equal_int_int N p3 l4) fun q10 =>
   some q10
  else
   some false
 ) fun t7 =>
 some (0, t7)
def impl_signatures_typeOf_B_L1 (N : Nat) (p0 : RSignatures) (q56 : (List Int)) : Nat → Int → (List (List Int)) → Option ((List (List Int)))
 | 0, _, _ => none
 | n + 1, t67, l68 =>
  if (decide (t67 < (Sh.len q56))) = true then
   Option.bind (Sh.get q56 t67) fun c79 =>
   Option.bind (impl_fieldsOf N p0.decls c79) fun q80 =>
   Option.bind (Sh.get l68 t67) fun c81 =>
   impl_signatures_typeOf_B_L1 N p0 q56 n (Sh.w (t67 + 1)) (Sh.put l68 t67 q80)
  else
   some l68
def impl_signatures_typeOf_B_L2 (s0 : (List Int)) (p0 : RSignatures) (p2 : RExpr) (rec_impl_signatures_typeOf : (List Int) → RSignatures → RExpr → Option (Int)) : Nat → Int → (List Int) → Option ((Int) ⊕ ((List Int)))
 | 0, _, _ => none
 | n + 1, t90, l91 =>
  if (decide (t90 < (Sh.len p2.kids))) = true then
   Option.bind (Sh.get p2.kids t90) fun c108 =>
   Option.bind (rec_impl_signatures_typeOf s0 p0 c108) fun q110 =>
   Option.bind (Sh.get l91 t90) fun c111 =>
   Option.bind (Sh.get (Sh.put l91 t90 q110) t90) fun c113 =>
   if (decide (c113 < 0)) = true then
    some (Sum.inl (-1))
   else
    impl_signatures_typeOf_B_L2 s0 p0 p2 rec_impl_signatures_typeOf n (Sh.w (t90 + 1)) (Sh.put l91 t90 q110)
  else
   some (Sum.inr l91)
def impl_signatures_typeOf_B (N : Nat) (rec_impl_signatures_typeOf : (List Int) → RSignatures → RExpr → Option (Int)) (s0 : (List Int)) (p0 : RSignatures) (p2 : RExpr) : Option (Int) :=
 if (decide (p2.op = 12)) = true then
  Option.bind (
   if (decide (0 < (Sh.len p2.kids))) = true then
    some true
   else
   if (decide (p2.num < 0)) = true then
    some true
   else
    some (decide ((Sh.len s0) ≤ p2.num))
  ) fun t8 =>
  if t8 = true then
   some (-1)
  else
   Option.bind (Sh.get s0 p2.num) fun c13 =>
   some c13
 else
 if (decide (p2.op = 13)) = true then
  Option.bind (
   if (!decide ((Sh.len p2.kids) = 2)) = true then
    some true
   else
    some (!decide (p2.num = 0))
  ) fun t20 =>
  if t20 = true then
   some (-1)
  else
   Option.bind (Sh.get p2.kids 0) fun c25 =>
   Option.bind (rec_impl_signatures_typeOf s0 p0 c25) fun q26 =>
   if (decide (q26 < 0)) = true then
    some (-1)
   else
    Option.bind (Sh.app s0 [q26] 8) fun l32 =>
    Option.bind (Sh.get p2.kids 1) fun c33 =>
    Option.bind (rec_impl_signatures_typeOf l32 p0 c33) fun q34 =>
    some q34
 else
 if (decide (p2.op = 7)) = true then
  Option.bind (
   if (!decide ((Sh.len p2.kids) = 3)) = true then
    some true
   else
   if (!decide (p2.num = 0)) = true then
    some true
   else
    Option.bind (Sh.get p2.kids 0) fun c51 =>
    Option.bind (rec_impl_signatures_typeOf s0 p0 c51) fun q52 =>
    some (!decide (q52 = 0))
  ) fun t41 =>
  if t41 = true then
   some (-1)
  else
   Option.bind (Sh.sl p2.kids 1 (Sh.len p2.kids)) fun l46 =>
   Option.bind (Sh.mk [] 2 24) fun l47 =>
   Option.bind (impl_signatures_oneType N rec_impl_signatures_typeOf p0 s0 l46 l47) fun q48 =>
   some q48
 else
 if (decide (p2.op = 8)) = true then
  Option.bind (impl_consOf N p0.decls p2.num) fun q56 =>
  Option.bind (
   if (decide ((Sh.len q56) = 0)) = true then
    some true
   else
   if (!decide ((Sh.len p2.kids) = (Sh.w (1 + (Sh.len q56))))) = true then
    some true
   else
    Option.bind (Sh.get p2.kids 0) fun c84 =>
    Option.bind (rec_impl_signatures_typeOf s0 p0 c84) fun q85 =>
    some (!decide (q85 = p2.num))
  ) fun t59 =>
  if t59 = true then
   some (-1)
  else
   Option.bind (Sh.mk [] (Sh.len q56) 24) fun l64 =>
   Option.bind (impl_signatures_typeOf_B_L1 N p0 q56 N 0 l64) fun l69 =>
   Option.bind (Sh.sl p2.kids 1 (Sh.len p2.kids)) fun l72 =>
   Option.bind (impl_signatures_oneType N rec_impl_signatures_typeOf p0 s0 l72 l69) fun q73 =>
   some q73
 else
  Option.bind (Sh.mk 0 (Sh.len p2.kids) 8) fun l87 =>
  Sh.cont (impl_signatures_typeOf_B_L2 s0 p0 p2 rec_impl_signatures_typeOf N 0 l87) (id) fun l92 =>
  Option.bind (impl_signatures_simpleType N p0 p2.op p2.num l92) fun q95 =>
  if (!q95.2) = true then
   some (-1)
  else
   some q95.1
def impl_signatures_typeOf_F (N : Nat) : Nat → (List Int) → RSignatures → RExpr → Option (Int)
 | 0, _, _, _ => none
 | n + 1, s0, p0, p2 => impl_signatures_typeOf_B N (impl_signatures_typeOf_F N n) s0 p0 p2
def impl_signatures_typeOf (N : Nat) (s0 : (List Int)) (p0 : RSignatures) (p2 : RExpr) : Option (Int) := impl_signatures_typeOf_F N N s0 p0 p2
def impl_TypeOf (N : Nat) (p0 : RProgram) (p1 : (List Int)) (p2 : RExpr) : Option (Int) :=
 Option.bind (
  Option.bind (impl_ValidSigs N p0) fun q13 =>
  if (!q13) = true then
   some true
  else
   Option.bind (impl_NodesOf N p2) fun q15 =>
   if (decide (q15 < 0)) = true then
    some true
   else
    Option.bind (impl_allTypes N p0.decls p1) fun q17 =>
    some (!q17)
 ) fun t4 =>
 if t4 = true then
  some (-1)
 else
  Option.bind (impl_sigsOf N p0) fun q9 =>
  Option.bind (slices_Clone_int_int p1) fun q10 =>
  Option.bind (impl_signatures_typeOf N q10 q9 p2) fun q11 =>
  some q11
def impl_ValidProgram_L1 (N : Nat) (p0 : RProgram) : Nat → Int → Option ((Bool) ⊕ (Unit))
 | 0, _ => none
 | n + 1, t11 =>
  if (decide (t11 < (Sh.len p0.funcs))) = true then
   Option.bind (Sh.get p0.funcs t11) fun c19 =>
   Option.bind (impl_TypeOf N p0 c19.params c19.body) fun q21 =>
   if (!decide (q21 = c19.result)) = true then
    some (Sum.inl false)
   else
    impl_ValidProgram_L1 N p0 n (Sh.w (t11 + 1))
  else
   some (Sum.inr ())
def impl_ValidProgram (N : Nat) (p0 : RProgram) : Option (Bool) :=
 Option.bind (impl_ValidSigs N p0) fun q4 =>
 if (!q4) = true then
  some false
 else
  Sh.cont (impl_ValidProgram_L1 N p0 N 0) (id) fun () =>
  some true
def laws_eqExprS_L1 (p0 : (List RExpr)) (p1 : (List RExpr)) (rec_laws_eqExpr : RExpr → RExpr → Option (Bool)) : Nat → Int → Option ((Bool) ⊕ (Unit))
 | 0, _ => none
 | n + 1, i10 =>
  if (decide (i10 < (Sh.len p0))) = true then
   Option.bind (Sh.get p0 i10) fun c18 =>
   Option.bind (Sh.get p1 i10) fun c19 =>
   Option.bind (rec_laws_eqExpr c18 c19) fun q20 =>
   if (!q20) = true then
    some (Sum.inl false)
   else
    laws_eqExprS_L1 p0 p1 rec_laws_eqExpr n (Sh.w (i10 + 1))
  else
   some (Sum.inr ())
def laws_eqExprS (N : Nat) (rec_laws_eqExpr : RExpr → RExpr → Option (Bool)) (p0 : (List RExpr)) (p1 : (List RExpr)) : Option (Bool) :=
 if (!decide ((Sh.len p0) = (Sh.len p1))) = true then
  some false
 else
  Sh.cont (laws_eqExprS_L1 p0 p1 rec_laws_eqExpr N 0) (id) fun () =>
  some true
def laws_eqExpr_B (N : Nat) (rec_laws_eqExpr : RExpr → RExpr → Option (Bool)) (p0 : RExpr) (p1 : RExpr) : Option (Bool) :=
 if (!decide (p0.op = p1.op)) = true then
  some false
 else
 if (!decide (p0.num = p1.num)) = true then
  some false
 else
  Option.bind (laws_eqExprS N rec_laws_eqExpr p0.kids p1.kids) fun q16 =>
  if (!q16) = true then
   some false
  else
   some true
def laws_eqExpr_F (N : Nat) : Nat → RExpr → RExpr → Option (Bool)
 | 0, _, _ => none
 | n + 1, p0, p1 => laws_eqExpr_B N (laws_eqExpr_F N n) p0 p1
def laws_eqExpr (N : Nat) (p0 : RExpr) (p1 : RExpr) : Option (Bool) := laws_eqExpr_F N N p0 p1
def laws_eqFunc (N : Nat) (p0 : RFunc) (p1 : RFunc) : Option (Bool) :=
 Option.bind (laws_eqIntS N p0.params p1.params) fun q4 =>
 if (!q4) = true then
  some false
 else
 if (!decide (p0.result = p1.result)) = true then
  some false
 else
  Option.bind (laws_eqExpr N p0.body p1.body) fun q17 =>
  if (!q17) = true then
   some false
  else
   some true
def laws_eqFuncS_L1 (N : Nat) (p0 : (List RFunc)) (p1 : (List RFunc)) : Nat → Int → Option ((Bool) ⊕ (Unit))
 | 0, _ => none
 | n + 1, i10 =>
  if (decide (i10 < (Sh.len p0))) = true then
   Option.bind (Sh.get p0 i10) fun c18 =>
   Option.bind (Sh.get p1 i10) fun c19 =>
   Option.bind (laws_eqFunc N c18 c19) fun q20 =>
   if (!q20) = true then
    some (Sum.inl false)
   else
    laws_eqFuncS_L1 N p0 p1 n (Sh.w (i10 + 1))
  else
   some (Sum.inr ())
def laws_eqFuncS (N : Nat) (p0 : (List RFunc)) (p1 : (List RFunc)) : Option (Bool) :=
 if (!decide ((Sh.len p0) = (Sh.len p1))) = true then
  some false
 else
  Sh.cont (laws_eqFuncS_L1 N p0 p1 N 0) (id) fun () =>
  some true
def laws_eqProgram (N : Nat) (p0 : RProgram) (p1 : RProgram) : Option (Bool) :=
 Option.bind (laws_eqDeclS N p0.decls p1.decls) fun q4 =>
 if (!q4) = true then
  some false
 else
  Option.bind (laws_eqFuncS N p0.funcs p1.funcs) fun q11 =>
  if (!q11) = true then
   some false
  else
   some true
end RC


namespace RC
end RC


namespace RC
end RC


namespace RC
end RC


namespace RC
def spec_insert_L1 (p0 : (List Int)) (p1 : Int) : Nat → Bool → Int → (List Int) → Option (Bool × (List Int))
 | 0, _, _, _ => none
 | n + 1, done6, i7, l8 =>
  if (decide (i7 < (Sh.len p0))) = true then
   Option.bind (
    Option.bind (
     if (!done6) = true then
      Option.bind (Sh.get p0 i7) fun c43 =>
      some (decide (p1 ≤ c43))
     else
      some false
    ) fun t32 =>
    if t32 = true then
     Option.bind (
      Option.bind (Sh.get p0 i7) fun c39 =>
      if (decide (p1 < c39)) = true then
       Option.bind (Sh.app l8 [p1] 8) fun l41 =>
       some l41
      else
       some l8
     ) fun l36 =>
     some (true, l36)
    else
     some (done6, l8)
   ) fun (done26, l27) =>
   Option.bind (Sh.get p0 i7) fun c29 =>
   Option.bind (Sh.app l27 [c29] 8) fun l30 =>
   spec_insert_L1 p0 p1 n done26 (Sh.w (i7 + 1)) l30
  else
   some (done6, l8)
def spec_insert (N : Nat) (p0 : (List Int)) (p1 : Int) : Option ((List Int)) :=
 Option.bind (spec_insert_L1 p0 p1 N false 0 []) fun (done9, l10) =>
 Option.bind (
  if (!done9) = true then
   Option.bind (Sh.app l10 [p1] 8) fun l19 =>
   some l19
  else
   some l10
 ) fun l13 =>
 some l13
end RC


namespace RC
def spec_calleesIn_B_L1 (p0 : RExpr) (rec_spec_calleesIn : RExpr → (List Int) → Option ((List Int))) : Nat → (List Int) → Int → Option ((List Int))
 | 0, _, _ => none
 | n + 1, list7, i8 =>
  if (decide (i8 < (Sh.len p0.kids))) = true then
   Option.bind (Sh.get p0.kids i8) fun c16 =>
   Option.bind (rec_spec_calleesIn c16 list7) fun q17 =>
   spec_calleesIn_B_L1 p0 rec_spec_calleesIn n q17 (Sh.w (i8 + 1))
  else
   some list7
def spec_calleesIn_B (N : Nat) (rec_spec_calleesIn : RExpr → (List Int) → Option ((List Int))) (p0 : RExpr) (p1 : (List Int)) : Option ((List Int)) :=
 Option.bind (
  Option.bind (
   if (decide (p0.op = 9)) = true then
    some true
   else
    some (decide (p0.op = 10))
  ) fun t19 =>
  if t19 = true then
   Option.bind (spec_insert N p1 p0.num) fun q22 =>
   some q22
  else
   some p1
 ) fun list3 =>
 Option.bind (spec_calleesIn_B_L1 p0 rec_spec_calleesIn N list3 0) fun list9 =>
 some list9
def spec_calleesIn_F (N : Nat) : Nat → RExpr → (List Int) → Option ((List Int))
 | 0, _, _ => none
 | n + 1, p0, p1 => spec_calleesIn_B N (spec_calleesIn_F N n) p0 p1
def spec_calleesIn (N : Nat) (p0 : RExpr) (p1 : (List Int)) : Option ((List Int)) := spec_calleesIn_F N N p0 p1
def spec_isIn_L1 (p0 : (List Int)) (p1 : Int) : Nat → Int → Option ((Bool) ⊕ (Unit))
 | 0, _ => none
 | n + 1, i4 =>
  if (decide (i4 < (Sh.len p0))) = true then
   Option.bind (Sh.get p0 i4) fun c12 =>
   if (decide (c12 = p1)) = true then
    some (Sum.inl true)
   else
    spec_isIn_L1 p0 p1 n (Sh.w (i4 + 1))
  else
   some (Sum.inr ())
def spec_isIn (N : Nat) (p0 : (List Int)) (p1 : Int) : Option (Bool) :=
 Sh.cont (spec_isIn_L1 p0 p1 N 0) (id) fun () =>
 some false
def spec_reachedFrom_L3 (N : Nat) (q30 : (List Int)) : Nat → Int → (List Int) → Option ((List Int))
 | 0, _, _ => none
 | n + 1, k33, l34 =>
  if (decide (k33 < (Sh.len q30))) = true then
   Option.bind (Sh.get q30 k33) fun c41 =>
   Option.bind (spec_insert N l34 c41) fun q42 =>
   spec_reachedFrom_L3 N q30 n (Sh.w (k33 + 1)) q42
  else
   some l34
def spec_reachedFrom_L2 (N : Nat) (p0 : RProgram) : Nat → Int → (List Int) → Option ((List Int))
 | 0, _, _ => none
 | n + 1, i15, l16 =>
  if (decide (i15 < (Sh.len p0.funcs))) = true then
   Option.bind (
    Option.bind (spec_isIn N l16 i15) fun q26 =>
    if q26 = true then
     Option.bind (Sh.get p0.funcs i15) fun c29 =>
     Option.bind (spec_calleesIn N c29.body ([] : List Int)) fun q30 =>
     Option.bind (spec_reachedFrom_L3 N q30 N 0 l16) fun l35 =>
     some l35
    else
     some l16
   ) fun l23 =>
   spec_reachedFrom_L2 N p0 n (Sh.w (i15 + 1)) l23
  else
   some l16
def spec_reachedFrom_L1 (N : Nat) (p0 : RProgram) : Nat → Int → (List Int) → Option ((List Int))
 | 0, _, _ => none
 | n + 1, round5, l6 =>
  if (decide (round5 < (Sh.len p0.funcs))) = true then
   Option.bind (spec_reachedFrom_L2 N p0 N 0 l6) fun l17 =>
   spec_reachedFrom_L1 N p0 n (Sh.w (round5 + 1)) l17
  else
   some l6
def spec_reachedFrom (N : Nat) (p0 : RProgram) (p1 : Int) : Option ((List Int)) :=
 Option.bind (spec_reachedFrom_L1 N p0 N 0 [p1]) fun l7 =>
 some l7
def spec_mayInline_L1 (N : Nat) (p0 : RProgram) (p1 : Int) (q11 : (List Int)) : Nat → Int → Option ((Bool) ⊕ (Unit))
 | 0, _ => none
 | n + 1, i14 =>
  if (decide (i14 < (Sh.len q11))) = true then
   Option.bind (Sh.get q11 i14) fun c22 =>
   Option.bind (spec_reachedFrom N p0 c22) fun q23 =>
   Option.bind (spec_isIn N q23 p1) fun q24 =>
   if q24 = true then
    some (Sum.inl false)
   else
    spec_mayInline_L1 N p0 p1 q11 n (Sh.w (i14 + 1))
  else
   some (Sum.inr ())
def spec_mayInline (N : Nat) (p0 : RProgram) (p1 : Int) : Option (Bool) :=
 Option.bind (spec_inRange p1 1 (Sh.w ((Sh.len p0.funcs) - 1))) fun q4 =>
 if (!q4) = true then
  some false
 else
  Option.bind (Sh.get p0.funcs p1) fun c10 =>
  Option.bind (spec_calleesIn N c10.body ([] : List Int)) fun q11 =>
  Sh.cont (spec_mayInline_L1 N p0 p1 q11 N 0) (id) fun () =>
  some true
def spec_MayInline (N : Nat) (p0 : RProgram) (p1 : Int) : Option (Bool) :=
 Option.bind (
  Option.bind (spec_validProgram N p0) fun q5 =>
  if q5 = true then
   Option.bind (spec_mayInline N p0 p1) fun q7 =>
   some q7
  else
   some false
 ) fun t3 =>
 some t3
def impl_calleesOf_1 (s1 : (List Bool)) (p0 : RExpr) : Option ((List Bool)) :=
 Option.bind (
  if (decide (p0.op = 9)) = true then
   some true
  else
   some (decide (p0.op = 10))
 ) fun t3 =>
 if t3 = true then
  Option.bind (Sh.get s1 p0.num) fun c6 =>
  some (Sh.put s1 p0.num true)
 else
  some s1
def impl_walk_3_B_L1 (p0 : RExpr) (rec_impl_walk_3 : (List Bool) → RExpr → Option ((List Bool))) : Nat → Int → (List Bool) → Option ((List Bool))
 | 0, _, _ => none
 | n + 1, t6, l7 =>
  if (decide (t6 < (Sh.len p0.kids))) = true then
   Option.bind (Sh.get p0.kids t6) fun c15 =>
   Option.bind (rec_impl_walk_3 l7 c15) fun q16 =>
   impl_walk_3_B_L1 p0 rec_impl_walk_3 n (Sh.w (t6 + 1)) q16
  else
   some l7
def impl_walk_3_B (N : Nat) (rec_impl_walk_3 : (List Bool) → RExpr → Option ((List Bool))) (s1 : (List Bool)) (p0 : RExpr) : Option ((List Bool)) :=
 Option.bind (impl_calleesOf_1 s1 p0) fun q3 =>
 Option.bind (impl_walk_3_B_L1 p0 rec_impl_walk_3 N 0 q3) fun l8 =>
 some l8
def impl_walk_3_F (N : Nat) : Nat → (List Bool) → RExpr → Option ((List Bool))
 | 0, _, _ => none
 | n + 1, s1, p0 => impl_walk_3_B N (impl_walk_3_F N n) s1 p0
def impl_walk_3 (N : Nat) (s1 : (List Bool)) (p0 : RExpr) : Option ((List Bool)) := impl_walk_3_F N N s1 p0
def impl_calleesOf (N : Nat) (p0 : RProgram) (p1 : Int) : Option ((List Bool)) :=
 Option.bind (Sh.mk false (Sh.len p0.funcs) 1) fun l3 =>
 Option.bind (Sh.get p0.funcs p1) fun c5 =>
 Option.bind (impl_walk_3 N l3 c5.body) fun q6 =>
 some q6
def impl_indicesOf_L1 (p0 : (List Bool)) : Nat → Int → (List Int) → Option ((List Int))
 | 0, _, _ => none
 | n + 1, t5, l6 =>
  if (decide (t5 < (Sh.len p0))) = true then
   Option.bind (
    Option.bind (Sh.get p0 t5) fun c17 =>
    if c17 = true then
     Option.bind (Sh.app l6 [t5] 8) fun l20 =>
     some l20
    else
     some l6
   ) fun l14 =>
   impl_indicesOf_L1 p0 n (Sh.w (t5 + 1)) l14
  else
   some l6
def impl_indicesOf (N : Nat) (p0 : (List Bool)) : Option ((List Int)) :=
 Option.bind (impl_indicesOf_L1 p0 N 0 []) fun l7 =>
 some l7
def impl_CalleesOf (N : Nat) (p0 : RProgram) (p1 : Int) : Option ((List Int)) :=
 Option.bind (
  Option.bind (impl_ValidProgram N p0) fun q11 =>
  if (!q11) = true then
   some true
  else
  if (decide (p1 < 0)) = true then
   some true
  else
   some (decide ((Sh.len p0.funcs) ≤ p1))
 ) fun t4 =>
 if t4 = true then
  some []
 else
  Option.bind (impl_calleesOf N p0 p1) fun q9 =>
  Option.bind (impl_indicesOf N q9) fun q10 =>
  some q10
def impl_ReachedFrom_L2 (q27 : (List Int)) : Nat → Int → (List Bool) → (List Int) → Option ((List Bool) × (List Int))
 | 0, _, _, _ => none
 | n + 1, t28, l29, l30 =>
  if (decide (t28 < (Sh.len q27))) = true then
   Option.bind (
    Option.bind (Sh.get q27 t28) fun c43 =>
    Option.bind (Sh.get l29 c43) fun c45 =>
    if (!c45) = true then
     Option.bind (Sh.app l30 [c43] 8) fun l49 =>
     some (Sh.put l29 c43 true, l49)
    else
     some (l29, l30)
   ) fun (l39, l40) =>
   impl_ReachedFrom_L2 q27 n (Sh.w (t28 + 1)) l39 l40
  else
   some (l29, l30)
def impl_ReachedFrom_L1 (N : Nat) (p0 : RProgram) : Nat → (List Bool) → (List Int) → Option ((List Bool))
 | 0, _, _ => none
 | n + 1, l14, l15 =>
  if (decide (0 < (Sh.len l15))) = true then
   Option.bind (Sh.get l15 0) fun c25 =>
   Option.bind (impl_calleesOf N p0 c25) fun q26 =>
   Option.bind (impl_indicesOf N q26) fun q27 =>
   Option.bind (impl_ReachedFrom_L2 q27 N 0 l14 l15) fun (l31, l32) =>
   Option.bind (Sh.sl l32 1 (Sh.len l32)) fun l34 =>
   impl_ReachedFrom_L1 N p0 n l31 l34
  else
   some l14
def impl_ReachedFrom (N : Nat) (p0 : RProgram) (p1 : Int) : Option ((List Int)) :=
 Option.bind (
  Option.bind (impl_ValidProgram N p0) fun q51 =>
  if (!q51) = true then
   some true
  else
  if (decide (p1 < 0)) = true then
   some true
  else
   some (decide ((Sh.len p0.funcs) ≤ p1))
 ) fun t4 =>
 if t4 = true then
  some []
 else
  Option.bind (Sh.mk false (Sh.len p0.funcs) 1) fun l9 =>
  Option.bind (Sh.get l9 p1) fun c11 =>
  Option.bind (impl_ReachedFrom_L1 N p0 N (Sh.put l9 p1 true) [p1]) fun l16 =>
  Option.bind (impl_indicesOf N l16) fun q19 =>
  some q19
def slices_Index_int_int_L1 (p0 : (List Int)) (p1 : Int) : Nat → Int → Option ((Int) ⊕ (Unit))
 | 0, _ => none
 | n + 1, t4 =>
  if (decide (t4 < (Sh.len p0))) = true then
   Option.bind (Sh.get p0 t4) fun c13 =>
   if (decide (p1 = c13)) = true then
    some (Sum.inl t4)
   else
    slices_Index_int_int_L1 p0 p1 n (Sh.w (t4 + 1))
  else
   some (Sum.inr ())
def slices_Index_int_int (N : Nat) (p0 : (List Int)) (p1 : Int) : Option (Int) :=
 Sh.cont (slices_Index_int_int_L1 p0 p1 N 0) (id) fun () =>
 some (-1)
def slices_Contains_int_int (N : Nat) (p0 : (List Int)) (p1 : Int) : Option (Bool) :=
 Option.bind (slices_Index_int_int N p0 p1) fun q3 =>
 some (decide (0 ≤ q3))
def impl_MayInline_L1 (N : Nat) (p0 : RProgram) (p1 : Int) (q10 : (List Int)) : Nat → Int → Option ((Bool) ⊕ (Unit))
 | 0, _ => none
 | n + 1, t11 =>
  if (decide (t11 < (Sh.len q10))) = true then
   Option.bind (Sh.get q10 t11) fun c19 =>
   Option.bind (impl_ReachedFrom N p0 c19) fun q21 =>
   Option.bind (slices_Contains_int_int N q21 p1) fun q22 =>
   if q22 = true then
    some (Sum.inl false)
   else
    impl_MayInline_L1 N p0 p1 q10 n (Sh.w (t11 + 1))
  else
   some (Sum.inr ())
def impl_MayInline (N : Nat) (p0 : RProgram) (p1 : Int) : Option (Bool) :=
 Option.bind (
  Option.bind (impl_ValidProgram N p0) fun q25 =>
  if (!q25) = true then
   some true
  else
  if (decide (p1 < 1)) = true then
   some true
  else
   some (decide ((Sh.len p0.funcs) ≤ p1))
 ) fun t4 =>
 if t4 = true then
  some false
 else
  Option.bind (impl_CalleesOf N p0 p1) fun q10 =>
  Sh.cont (impl_MayInline_L1 N p0 p1 q10 N 0) (id) fun () =>
  some true
def laws_FnExactMayInline (N : Nat) (p0 : RProgram) (p1 : Int) : Option (Bool) :=
 Option.bind (laws_szProgram N p0 1048576) fun q4 =>
 if (decide (q4 < 0)) = true then
  some true
 else
  Option.bind (laws_toProgram N p0) fun q10 =>
  Option.bind (spec_MayInline N q10 p1) fun q11 =>
  Option.bind (laws_toProgram N p0) fun q13 =>
  Option.bind (impl_MayInline N q13 p1) fun q15 =>
  if (q15 != q11) = true then
   some false
  else
   Option.bind (laws_toProgram N p0) fun q22 =>
   Option.bind (laws_eqProgram N q13 q22) fun q23 =>
   if (!q23) = true then
    some false
   else
    some true
end RC

