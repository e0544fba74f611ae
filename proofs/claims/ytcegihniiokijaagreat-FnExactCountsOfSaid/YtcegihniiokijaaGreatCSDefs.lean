import Derived.Test.YtcegihniiokijaaGreatGEncEToEncH
import Derived.Test.YtcegihniiokijaaGreatHADefs
import Derived.Test.YtcegihniiokijaaGreatIADefs
import Derived.Test.YtcegihniiokijaaGreatVSDefs
namespace RC
def laws_szExprS_L1 (p0 : (List RExpr)) (rec_laws_szExpr : RExpr → Int → Option (Int)) : Nat → Int → Int → Option ((Int) ⊕ (Int))
 | 0, _, _ => none
 | n + 1, left9, i10 =>
  if (decide (i10 < (Sh.len p0))) = true then
   Option.bind (Sh.get p0 i10) fun c19 =>
   Option.bind (rec_laws_szExpr c19 left9) fun q20 =>
   if (decide (q20 < 0)) = true then
    some (Sum.inl (-1))
   else
    laws_szExprS_L1 p0 rec_laws_szExpr n q20 (Sh.w (i10 + 1))
  else
   some (Sum.inr left9)
def spec_allInts_L1 (p0 : RProgram) (p1 : (List Int)) (p2 : (List RExpr)) (p3 : Int) (rec_spec_typeOf : RProgram → (List Int) → RExpr → Option (Int)) : Nat → Int → Option ((Bool) ⊕ (Unit))
 | 0, _ => none
 | n + 1, i10 =>
  if (decide (i10 < p3)) = true then
   Option.bind (Sh.get p2 i10) fun c18 =>
   Option.bind (rec_spec_typeOf p0 p1 c18) fun q19 =>
   if (!decide (q19 = 0)) = true then
    some (Sum.inl false)
   else
    spec_allInts_L1 p0 p1 p2 p3 rec_spec_typeOf n (Sh.w (i10 + 1))
  else
   some (Sum.inr ())
def spec_copyInts (p0 : (List Int)) : Option ((List Int)) :=
 Option.bind (Sh.app ([] : List Int) p0 8) fun l3 =>
 some l3
def spec_extend (p0 : (List Int)) (p1 : (List Int)) : Option ((List Int)) :=
 Option.bind (spec_copyInts p0) fun q3 =>
 Option.bind (Sh.app q3 p1 8) fun l4 =>
 some l4
def spec_arrowOf_L1 (p0 : (List RDecl)) (p1 : Int) (p2 : Int) : Nat → Int → Option ((Int) ⊕ (Unit))
 | 0, _ => none
 | n + 1, i4 =>
  if (decide (i4 < (Sh.len p0))) = true then
   Option.bind (
    Option.bind (Sh.get p0 i4) fun c16 =>
    if (decide ((Sh.len c16.cons) = 0)) = true then
     if (decide (c16.from_ = p1)) = true then
      some (decide (c16.to = p2))
     else
      some false
    else
     some false
   ) fun t12 =>
   if t12 = true then
    some (Sum.inl (Sh.w (i4 + 1)))
   else
    spec_arrowOf_L1 p0 p1 p2 n (Sh.w (i4 + 1))
  else
   some (Sum.inr ())
def spec_arrowOf (N : Nat) (p0 : (List RDecl)) (p1 : Int) (p2 : Int) : Option (Int) :=
 Sh.cont (spec_arrowOf_L1 p0 p1 p2 N 0) (id) fun () =>
 some (-1)
def spec_isArrow (p0 : (List RDecl)) (p1 : Int) : Option (Bool) :=
 Option.bind (
  Option.bind (spec_inRange p1 1 (Sh.len p0)) fun q5 =>
  if q5 = true then
   Option.bind (Sh.get p0 (Sh.w (p1 - 1))) fun c7 =>
   some (decide ((Sh.len c7.cons) = 0))
  else
   some false
 ) fun t3 =>
 some t3
def slices_Grow_int_int (p1 : Int) : Option ((List Int)) :=
 if (decide (p1 < 0)) = true then
  none
 else
  Option.bind (
   if (decide (0 < (Sh.w (p1 - (Sh.w (0 - 0)))))) = true then
    Option.bind (Sh.mk 0 (Sh.w (p1 - (Sh.w (0 - 0)))) 8) fun l12 =>
    Option.bind (Sh.hi l12 0) fun l13 =>
    some l13
   else
    some []
  ) fun l6 =>
  some l6
def slices_Concat_int_int_L2 (p0 : (List (List Int))) : Nat → Int → (List Int) → Option ((List Int))
 | 0, _, _ => none
 | n + 1, t13, l14 =>
  if (decide (t13 < (Sh.len p0))) = true then
   Option.bind (Sh.get p0 t13) fun c23 =>
   Option.bind (Sh.app l14 c23 8) fun l24 =>
   slices_Concat_int_int_L2 p0 n (Sh.w (t13 + 1)) l24
  else
   some l14
def slices_Concat_int_int_L1 (p0 : (List (List Int))) : Nat → Int → Int → Option (Int)
 | 0, _, _ => none
 | n + 1, size5, t6 =>
  if (decide (t6 < (Sh.len p0))) = true then
   Option.bind (Sh.get p0 t6) fun c30 =>
   if (decide ((Sh.w (size5 + (Sh.len c30))) < 0)) = true then
    none
   else
    slices_Concat_int_int_L1 p0 n (Sh.w (size5 + (Sh.len c30))) (Sh.w (t6 + 1))
  else
   some size5
def slices_Concat_int_int (N : Nat) (p0 : (List (List Int))) : Option ((List Int)) :=
 Option.bind (slices_Concat_int_int_L1 p0 N 0 0) fun size7 =>
 Option.bind (slices_Grow_int_int size7) fun q10 =>
 Option.bind (slices_Concat_int_int_L2 p0 N 0 q10) fun l15 =>
 some l15
def impl_arrowAt (p0 : (List RDecl)) (p1 : Int) : Option (RDecl × Bool) :=
 Option.bind (
  if (decide (p1 < 1)) = true then
   some true
  else
  if (decide ((Sh.len p0) < p1)) = true then
   some true
  else
   Option.bind (Sh.get p0 (Sh.w (p1 - 1))) fun c12 =>
   some (decide (0 < (Sh.len c12.cons)))
 ) fun t4 =>
 if t4 = true then
  some ((RDecl.mk 0 0 []), false)
 else
  Option.bind (Sh.get p0 (Sh.w (p1 - 1))) fun c9 =>
  some (c9, true)
def slices_Equal_int_int_L1 (p0 : (List Int)) (p1 : (List Int)) : Nat → Int → Option ((Bool) ⊕ (Unit))
 | 0, _ => none
 | n + 1, t10 =>
  if (decide (t10 < (Sh.len p0))) = true then
   Option.bind (Sh.get p0 t10) fun c19 =>
   Option.bind (Sh.get p1 t10) fun c20 =>
   if (!decide (c19 = c20)) = true then
    some (Sum.inl false)
   else
    slices_Equal_int_int_L1 p0 p1 n (Sh.w (t10 + 1))
  else
   some (Sum.inr ())
def slices_Equal_int_int (N : Nat) (p0 : (List Int)) (p1 : (List Int)) : Option (Bool) :=
 if (!decide ((Sh.len p0) = (Sh.len p1))) = true then
  some false
 else
  Sh.cont (slices_Equal_int_int_L1 p0 p1 N 0) (id) fun () =>
  some true
def impl_arrowOf_L1 (p0 : (List RDecl)) (p1 : Int) (p2 : Int) : Nat → Int → Option ((Int) ⊕ (Unit))
 | 0, _ => none
 | n + 1, t4 =>
  if (decide (t4 < (Sh.len p0))) = true then
   Option.bind (Sh.get p0 t4) fun c12 =>
   Option.bind (
    if (decide ((Sh.len c12.cons) = 0)) = true then
     if (decide (c12.from_ = p1)) = true then
      some (decide (c12.to = p2))
     else
      some false
    else
     some false
   ) fun t14 =>
   if t14 = true then
    some (Sum.inl (Sh.w (t4 + 1)))
   else
    impl_arrowOf_L1 p0 p1 p2 n (Sh.w (t4 + 1))
  else
   some (Sum.inr ())
def impl_arrowOf (N : Nat) (p0 : (List RDecl)) (p1 : Int) (p2 : Int) : Option (Int) :=
 Sh.cont (impl_arrowOf_L1 p0 p1 p2 N 0) (id) fun () =>
 some (-1)
def impl_signatures_simpleType (N : Nat) (p0 : RSignatures) (p1 : Int) (p2 : Int) (p3 : (List Int)) : Option (Int × Bool) :=
 Sh.cont (
  if (decide (p1 = 0)) = true then
   Option.bind (
    if (decide ((-999) ≤ p2)) = true then
     if (decide (p2 ≤ 999)) = true then
      some (decide ((Sh.len p3) = 0))
     else
      some false
    else
     some false
   ) fun t15 =>
   some (Sum.inl (0, t15))
  else
   Option.bind (
    if (decide (p1 = 1)) = true then
     some true
    else
    if (decide (p1 = 2)) = true then
     some true
    else
    if (decide (p1 = 3)) = true then
     some true
    else
     some (decide (p1 = 4))
   ) fun t20 =>
   if t20 = true then
    some (Sum.inr [(0 : Int), 0])
   else
   if (decide (p1 = 5)) = true then
    some (Sum.inr [(0 : Int)])
   else
   if (decide (p1 = 11)) = true then
    if (!decide ((Sh.len p3) = 2)) = true then
     some (Sum.inl (-1, false))
    else
     Option.bind (Sh.get p3 0) fun c34 =>
     Option.bind (impl_arrowAt p0.decls c34) fun q35 =>
     Option.bind (
      if q35.2 = true then
       Option.bind (Sh.get p3 1) fun c41 =>
       if (decide (c41 = q35.1.from_)) = true then
        some (decide (p2 = 0))
       else
        some false
      else
       some false
     ) fun t38 =>
     some (Sum.inl (q35.1.to, t38))
   else
   if (decide (p1 = 6)) = true then
    Option.bind (impl_conAt N p0.decls p2) fun q40 =>
    Option.bind (
     if (decide (0 ≤ q40.1)) = true then
      Option.bind (slices_Equal_int_int N p3 q40.2.fields) fun q45 =>
      some q45
     else
      some false
    ) fun t42 =>
    some (Sum.inl (q40.1, t42))
   else
    Option.bind (
     if (decide (p1 = 9)) = true then
      some true
     else
      some (decide (p1 = 10))
    ) fun t47 =>
    if t47 = true then
     Option.bind (
      if (decide (p2 < 0)) = true then
       some true
      else
       some (decide ((Sh.len p0.funcs) ≤ p2))
     ) fun t52 =>
     if t52 = true then
      some (Sum.inl (-1, false))
     else
      Option.bind (Sh.get p0.funcs p2) fun c57 =>
      if (decide (p1 = 9)) = true then
       Option.bind (slices_Equal_int_int N p3 c57.params) fun q62 =>
       some (Sum.inl (c57.result, q62))
      else
      if (decide ((Sh.w ((Sh.len c57.params) - 1)) < 0)) = true then
       some (Sum.inl (-1, false))
      else
       Option.bind (Sh.get c57.params (Sh.w ((Sh.len c57.params) - 1))) fun c69 =>
       Option.bind (impl_arrowOf N p0.decls c69 c57.result) fun q70 =>
       Option.bind (
        if (decide (0 ≤ q70)) = true then
         Option.bind (Sh.sl c57.params 0 (Sh.w ((Sh.len c57.params) - 1))) fun l75 =>
         Option.bind (slices_Equal_int_int N p3 l75) fun q76 =>
         some q76
        else
         some false
       ) fun t72 =>
       some (Sum.inl (q70, t72))
    else
     some (Sum.inl (-1, false))
 ) (id) fun l4 =>
 Option.bind (
  if (decide (p2 = 0)) = true then
   Option.bind (slices_Equal_int_int N p3 l4) fun q10 =>
   some q10
  else
   some false
 ) fun t7 =>
 some (0, t7)
end RC

