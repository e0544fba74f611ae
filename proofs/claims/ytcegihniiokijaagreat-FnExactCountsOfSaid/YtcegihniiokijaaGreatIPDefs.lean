import Derived.Test.YtcegihniiokijaaGreatGEncEToEncH
import Derived.Test.YtcegihniiokijaaGreatHADefs
import Derived.Test.YtcegihniiokijaaGreatIADefs
import Derived.Test.YtcegihniiokijaaGreatVSDefs
import Derived.Test.YtcegihniiokijaaGreatSADefs
import Derived.Test.YtcegihniiokijaaGreatCSDefs
namespace RC
def laws_szRoutine (N : Nat) (p0 : RRoutine) (p1 : Int) : Option (Int) :=
 Option.bind (laws_szIntS p0.params p1) fun q3 =>
 if (decide (q3 < 0)) = true then
  some (-1)
 else
  Option.bind (laws_szIntS p0.lent q3) fun q9 =>
  if (decide (q9 < 0)) = true then
   some (-1)
  else
   Option.bind (laws_szBlock N p0.body q9) fun q15 =>
   if (decide (q15 < 0)) = true then
    some (-1)
   else
    some q15
def laws_szRoutineS_L1 (N : Nat) (p0 : (List RRoutine)) : Nat → Int → Int → Option ((Int) ⊕ (Int))
 | 0, _, _ => none
 | n + 1, left9, i10 =>
  if (decide (i10 < (Sh.len p0))) = true then
   Option.bind (Sh.get p0 i10) fun c19 =>
   Option.bind (laws_szRoutine N c19 left9) fun q20 =>
   if (decide (q20 < 0)) = true then
    some (Sum.inl (-1))
   else
    laws_szRoutineS_L1 N p0 n q20 (Sh.w (i10 + 1))
  else
   some (Sum.inr left9)
def laws_szRoutineS (N : Nat) (p0 : (List RRoutine)) (p1 : Int) : Option (Int) :=
 if (decide ((Sh.w (p1 - (Sh.len p0))) < 0)) = true then
  some (-1)
 else
  Sh.cont (laws_szRoutineS_L1 N p0 N (Sh.w (p1 - (Sh.len p0))) 0) (id) fun left11 =>
  some left11
def laws_szNormal (N : Nat) (p0 : RNormal) (p1 : Int) : Option (Int) :=
 Option.bind (laws_szDeclS N p0.decls p1) fun q3 =>
 if (decide (q3 < 0)) = true then
  some (-1)
 else
  Option.bind (laws_szRoutineS N p0.routines q3) fun q9 =>
  if (decide (q9 < 0)) = true then
   some (-1)
  else
   some q9
def laws_toRoutine (N : Nat) (p0 : RRoutine) : Option (RRoutine) :=
 Option.bind (laws_toIntS N p0.params) fun q4 =>
 Option.bind (laws_toIntS N p0.lent) fun q6 =>
 Option.bind (laws_toBlock N p0.body) fun q9 =>
 some (RRoutine.mk q4 q6 p0.result q9)
def laws_toRoutineS_L1 (N : Nat) (p0 : (List RRoutine)) : Nat → Int → (List RRoutine) → Option ((List RRoutine))
 | 0, _, _ => none
 | n + 1, i6, l7 =>
  if (decide (i6 < (Sh.len p0))) = true then
   Option.bind (Sh.get p0 i6) fun c15 =>
   Option.bind (laws_toRoutine N c15) fun q16 =>
   Option.bind (Sh.get l7 i6) fun c17 =>
   laws_toRoutineS_L1 N p0 n (Sh.w (i6 + 1)) (Sh.put l7 i6 q16)
  else
   some l7
def laws_toRoutineS (N : Nat) (p0 : (List RRoutine)) : Option ((List RRoutine)) :=
 Option.bind (Sh.mk (RRoutine.mk [] [] 0 (Block.mk [] 0)) (Sh.len p0) 88) fun l3 =>
 Option.bind (laws_toRoutineS_L1 N p0 N 0 l3) fun l8 =>
 some l8
def laws_toNormal (N : Nat) (p0 : RNormal) : Option (RNormal) :=
 Option.bind (laws_toDeclS N p0.decls) fun q4 =>
 Option.bind (laws_toRoutineS N p0.routines) fun q6 =>
 some (RNormal.mk q4 q6)
def spec_sigsOf_L1 (p0 : RNormal) : Nat → Int → (List RFunc) → Option ((List RFunc))
 | 0, _, _ => none
 | n + 1, i5, l6 =>
  if (decide (i5 < (Sh.len p0.routines))) = true then
   Option.bind (Sh.get p0.routines i5) fun c14 =>
   Option.bind (Sh.app l6 ([(RFunc.mk c14.params c14.result (RExpr.mk 0 0 []))]) 72) fun l15 =>
   spec_sigsOf_L1 p0 n (Sh.w (i5 + 1)) l15
  else
   some l6
def spec_sigsOf (N : Nat) (p0 : RNormal) : Option (RProgram) :=
 Option.bind (spec_sigsOf_L1 p0 N 0 []) fun l7 =>
 some (RProgram.mk p0.decls l7)
def spec_validNormalSigs_L1 (N : Nat) (p0 : RNormal) : Nat → Int → Option ((Bool) ⊕ (Unit))
 | 0, _ => none
 | n + 1, i10 =>
  if (decide (i10 < (Sh.len p0.routines))) = true then
   Option.bind (Sh.get p0.routines i10) fun c18 =>
   Option.bind (spec_validLent N c18.params c18.lent) fun q19 =>
   if (!q19) = true then
    some (Sum.inl false)
   else
    spec_validNormalSigs_L1 N p0 n (Sh.w (i10 + 1))
  else
   some (Sum.inr ())
def spec_validNormalSigs (N : Nat) (p0 : RNormal) : Option (Bool) :=
 Option.bind (
  if (decide (4 < (Sh.len p0.routines))) = true then
   some true
  else
   Option.bind (spec_sigsOf N p0) fun q25 =>
   Option.bind (spec_validSigs N q25) fun q26 =>
   some (!q26)
 ) fun t4 =>
 if t4 = true then
  some false
 else
  Sh.cont (spec_validNormalSigs_L1 N p0 N 0) (id) fun () =>
  some true
def spec_hasNum (p0 : Int) : Option (Bool) :=
 Option.bind (
  if (decide (p0 = 0)) = true then
   some true
  else
  if (decide (p0 = 6)) = true then
   some true
  else
  if (decide (p0 = 8)) = true then
   some true
  else
  if (decide (p0 = 9)) = true then
   some true
  else
   some (decide (p0 = 10))
 ) fun t3 =>
 some t3
def spec_validInto (p0 : (List Int)) (p1 : Step) : Option (Bool) :=
 if (decide (p1.into = 0)) = true then
  some true
 else
  Option.bind (
   if (decide (p1.op = 6)) = true then
    Option.bind (spec_inRange p1.into 1 (Sh.len p0)) fun q10 =>
    if q10 = true then
     Option.bind (Sh.get p0 (Sh.w (p1.into - 1))) fun c12 =>
     some (decide (0 < c12))
    else
     some false
   else
    some false
  ) fun t7 =>
  some t7
def spec_typed_L1 (p0 : (List Int)) (p1 : (List Int)) (p2 : (List Int)) : Nat → Int → Option ((Bool) ⊕ (Unit))
 | 0, _ => none
 | n + 1, i10 =>
  if (decide (i10 < (Sh.len p1))) = true then
   Option.bind (
    Option.bind (Sh.get p1 i10) fun c22 =>
    Option.bind (spec_inRange c22 0 (Sh.w ((Sh.len p0) - 1))) fun q23 =>
    if (!q23) = true then
     some true
    else
     Option.bind (Sh.get p0 c22) fun c25 =>
     Option.bind (Sh.get p2 i10) fun c26 =>
     some (!decide (c25 = c26))
   ) fun t18 =>
   if t18 = true then
    some (Sum.inl false)
   else
    spec_typed_L1 p0 p1 p2 n (Sh.w (i10 + 1))
  else
   some (Sum.inr ())
def spec_typed (N : Nat) (p0 : (List Int)) (p1 : (List Int)) (p2 : (List Int)) : Option (Bool) :=
 if (!decide ((Sh.len p1) = (Sh.len p2))) = true then
  some false
 else
  Sh.cont (spec_typed_L1 p0 p1 p2 N 0) (id) fun () =>
  some true
def spec_kidsType_L1 (N : Nat) (many6 : Int) (p0 : RNormal) (p1 : (List Int)) (p2 : Step) (q3 : (List Int)) (rec_spec_blockType : RNormal → (List Int) → Block → Option (Int)) : Nat → Int → Int → Option ((Int) ⊕ (Int))
 | 0, _, _ => none
 | n + 1, t17, i18 =>
  if (decide (i18 < many6)) = true then
   Option.bind (
    if (decide (p2.op = 8)) = true then
     Option.bind (Sh.get q3 i18) fun c43 =>
     Option.bind (spec_conFields N p0.decls c43) fun q44 =>
     Option.bind (spec_extend p1 q44) fun q45 =>
     some q45
    else
     some p1
   ) fun inner28 =>
   Option.bind (Sh.get p2.kids i18) fun c31 =>
   Option.bind (rec_spec_blockType p0 inner28 c31) fun q32 =>
   Option.bind (
    if (decide (q32 < 0)) = true then
     some true
    else
    if (decide (0 < i18)) = true then
     some (!decide (q32 = t17))
    else
     some false
   ) fun t35 =>
   if t35 = true then
    some (Sum.inl (-1))
   else
    spec_kidsType_L1 N many6 p0 p1 p2 q3 rec_spec_blockType n q32 (Sh.w (i18 + 1))
  else
   some (Sum.inr t17)
def spec_kidsType (N : Nat) (rec_spec_blockType : RNormal → (List Int) → Block → Option (Int)) (p0 : RNormal) (p1 : (List Int)) (p2 : Step) : Option (Int) :=
 Option.bind (spec_consOf N p0.decls p2.num) fun q3 =>
 Option.bind (
  if (decide (p2.op = 7)) = true then
   some 2
  else
   some (Sh.len q3)
 ) fun many6 =>
 Option.bind (
  if (decide (many6 = 0)) = true then
   some true
  else
   some (!decide ((Sh.len p2.kids) = many6))
 ) fun t10 =>
 if t10 = true then
  some (-1)
 else
  Sh.cont (spec_kidsType_L1 N many6 p0 p1 p2 q3 rec_spec_blockType N 0 0) (id) fun t19 =>
  some t19
def spec_routineType (N : Nat) (p0 : RNormal) (p1 : (List Int)) (p2 : Step) : Option (Int) :=
 Option.bind (spec_inRange p2.num 0 (Sh.w ((Sh.len p0.routines) - 1))) fun q4 =>
 if (!q4) = true then
  some (-1)
 else
  Option.bind (Sh.get p0.routines p2.num) fun c10 =>
  if (decide (p2.op = 9)) = true then
   Option.bind (spec_typed N p1 p2.args c10.params) fun q17 =>
   if (!q17) = true then
    some (-1)
   else
    some c10.result
  else
   Option.bind (
    if (decide ((Sh.len c10.params) = 0)) = true then
     some true
    else
    if (decide (0 < (Sh.len c10.lent))) = true then
     some true
    else
     Option.bind (Sh.sl c10.params 0 (Sh.w ((Sh.len c10.params) - 1))) fun l34 =>
     Option.bind (spec_typed N p1 p2.args l34) fun q35 =>
     some (!q35)
   ) fun t25 =>
   if t25 = true then
    some (-1)
   else
    Option.bind (Sh.get c10.params (Sh.w ((Sh.len c10.params) - 1))) fun c30 =>
    Option.bind (spec_arrowOf N p0.decls c30 c10.result) fun q31 =>
    some q31
def spec_countingType (p0 : RNormal) (p1 : (List Int)) (p2 : Step) : Option (Int) :=
 Option.bind (
  if (!decide ((Sh.len p2.args) = 1)) = true then
   some true
  else
   Option.bind (Sh.get p2.args 0) fun c21 =>
   Option.bind (spec_inRange c21 0 (Sh.w ((Sh.len p1) - 1))) fun q22 =>
   if (!q22) = true then
    some true
   else
    Option.bind (Sh.get p1 c21) fun c24 =>
    some (decide (c24 = 0))
 ) fun t4 =>
 if t4 = true then
  some (-1)
 else
  Option.bind (
   if (!decide (p2.op = 14)) = true then
    if (!decide (p2.op = 15)) = true then
     Option.bind (Sh.get p2.args 0) fun c17 =>
     Option.bind (Sh.get p1 c17) fun c18 =>
     Option.bind (spec_isArrow p0.decls c18) fun q19 =>
     some q19
    else
     some false
   else
    some false
  ) fun t10 =>
  if t10 = true then
   some (-1)
  else
   some 0
def spec_stepType (N : Nat) (rec_spec_blockType : RNormal → (List Int) → Block → Option (Int)) (p0 : RNormal) (p1 : (List Int)) (p2 : Step) : Option (Int) :=
 Option.bind (
  if (!decide (p2.num = 0)) = true then
   Option.bind (spec_hasNum p2.op) fun q105 =>
   if (!q105) = true then
    some true
   else
    Option.bind (spec_validInto p1 p2) fun q107 =>
    if (!q107) = true then
     some true
    else
    if (decide (0 < (Sh.len p2.kids))) = true then
     if (!decide (p2.op = 7)) = true then
      some (!decide (p2.op = 8))
     else
      some false
    else
     some false
  else
   Option.bind (spec_validInto p1 p2) fun q111 =>
   if (!q111) = true then
    some true
   else
   if (decide (0 < (Sh.len p2.kids))) = true then
    if (!decide (p2.op = 7)) = true then
     some (!decide (p2.op = 8))
    else
     some false
   else
    some false
 ) fun t4 =>
 if t4 = true then
  some (-1)
 else
  Sh.cont (
   if (decide (p2.op = 0)) = true then
    Option.bind (
     if (decide ((Sh.len p2.args) = 0)) = true then
      Option.bind (spec_inRange p2.num (-999) 999) fun q20 =>
      some q20
     else
      some false
    ) fun t15 =>
    if t15 = true then
     some (Sum.inl 0)
    else
     some (Sum.inr ())
   else
    Option.bind (
     if (decide (p2.op = 1)) = true then
      some true
     else
     if (decide (p2.op = 2)) = true then
      some true
     else
     if (decide (p2.op = 3)) = true then
      some true
     else
      some (decide (p2.op = 4))
    ) fun t22 =>
    if t22 = true then
     Option.bind (spec_typed N p1 p2.args [(0 : Int), 0]) fun q26 =>
     if q26 = true then
      some (Sum.inl 0)
     else
      some (Sum.inr ())
    else
    if (decide (p2.op = 5)) = true then
     Option.bind (spec_typed N p1 p2.args [(0 : Int)]) fun q32 =>
     if q32 = true then
      some (Sum.inl 0)
     else
      some (Sum.inr ())
    else
    if (decide (p2.op = 6)) = true then
     Option.bind (
      Option.bind (spec_conType N p0.decls p2.num) fun q43 =>
      if (decide (0 < q43)) = true then
       Option.bind (spec_conFields N p0.decls p2.num) fun q45 =>
       Option.bind (spec_typed N p1 p2.args q45) fun q46 =>
       some q46
      else
       some false
     ) fun t38 =>
     if t38 = true then
      Option.bind (spec_conType N p0.decls p2.num) fun q42 =>
      some (Sum.inl q42)
     else
      some (Sum.inr ())
    else
    if (decide (p2.op = 7)) = true then
     Option.bind (spec_typed N p1 p2.args [(0 : Int)]) fun q50 =>
     if q50 = true then
      Option.bind (spec_kidsType N rec_spec_blockType p0 p1 p2) fun q53 =>
      some (Sum.inl q53)
     else
      some (Sum.inr ())
    else
    if (decide (p2.op = 8)) = true then
     Option.bind (spec_typed N p1 p2.args [p2.num]) fun q57 =>
     if q57 = true then
      Option.bind (spec_kidsType N rec_spec_blockType p0 p1 p2) fun q60 =>
      some (Sum.inl q60)
     else
      some (Sum.inr ())
    else
     Option.bind (
      if (decide (p2.op = 9)) = true then
       some true
      else
       some (decide (p2.op = 10))
     ) fun t62 =>
     if t62 = true then
      Option.bind (spec_routineType N p0 p1 p2) fun q66 =>
      some (Sum.inl q66)
     else
     if (decide (p2.op = 11)) = true then
      Option.bind (
       if (decide ((Sh.len p2.args) = 2)) = true then
        Option.bind (Sh.get p2.args 0) fun c79 =>
        Option.bind (spec_inRange c79 0 (Sh.w ((Sh.len p1) - 1))) fun q80 =>
        if q80 = true then
         Option.bind (Sh.get p1 c79) fun c82 =>
         Option.bind (spec_isArrow p0.decls c82) fun q83 =>
         some q83
        else
         some false
       else
        some false
      ) fun t70 =>
      if t70 = true then
       Option.bind (Sh.get p2.args 0) fun c74 =>
       Option.bind (Sh.get p1 c74) fun c75 =>
       Option.bind (Sh.get p0.decls (Sh.w (c75 - 1))) fun c76 =>
       Option.bind (Sh.sl p2.args 1 (Sh.len p2.args)) fun l79 =>
       Option.bind (spec_typed N p1 l79 [c76.from_]) fun q80 =>
       if q80 = true then
        some (Sum.inl c76.to)
       else
        some (Sum.inr ())
      else
       some (Sum.inr ())
     else
      Option.bind (
       if (decide (p2.op = 14)) = true then
        some true
       else
       if (decide (p2.op = 15)) = true then
        some true
       else
       if (decide (p2.op = 16)) = true then
        some true
       else
        some (decide (p2.op = 17))
      ) fun t85 =>
      if t85 = true then
       Option.bind (spec_countingType p0 p1 p2) fun q89 =>
       some (Sum.inl q89)
      else
       some (Sum.inr ())
  ) (id) fun () =>
  some (-1)
def spec_blockType_B_L1 (N : Nat) (p0 : RNormal) (p2 : Block) (rec_spec_blockType : RNormal → (List Int) → Block → Option (Int)) : Nat → Int → (List Int) → Option ((Int) ⊕ ((List Int)))
 | 0, _, _ => none
 | n + 1, i6, l7 =>
  if (decide (i6 < (Sh.len p2.steps))) = true then
   Sh.cont (
    Option.bind (Sh.get p2.steps i6) fun c26 =>
    Option.bind (spec_stepType N rec_spec_blockType p0 l7 c26) fun q27 =>
    if (decide (q27 < 0)) = true then
     some (Sum.inl (Sum.inl (-1)))
    else
     Option.bind (spec_defines c26.op) fun q33 =>
     if q33 = true then
      Option.bind (Sh.app l7 [q27] 8) fun l35 =>
      some (Sum.inr l35)
     else
      some (Sum.inr l7)
   ) (id) fun l23 =>
   spec_blockType_B_L1 N p0 p2 rec_spec_blockType n (Sh.w (i6 + 1)) l23
  else
   some (Sum.inr l7)
def spec_blockType_B (N : Nat) (rec_spec_blockType : RNormal → (List Int) → Block → Option (Int)) (p0 : RNormal) (p1 : (List Int)) (p2 : Block) : Option (Int) :=
 Option.bind (spec_copyInts p1) fun q3 =>
 Sh.cont (spec_blockType_B_L1 N p0 p2 rec_spec_blockType N 0 q3) (id) fun l8 =>
 Option.bind (spec_inRange p2.result 0 (Sh.w ((Sh.len l8) - 1))) fun q12 =>
 if (!q12) = true then
  some (-1)
 else
  Option.bind (Sh.get l8 p2.result) fun c18 =>
  some c18
def spec_blockType_F (N : Nat) : Nat → RNormal → (List Int) → Block → Option (Int)
 | 0, _, _, _ => none
 | n + 1, p0, p1, p2 => spec_blockType_B N (spec_blockType_F N n) p0 p1 p2
def spec_blockType (N : Nat) (p0 : RNormal) (p1 : (List Int)) (p2 : Block) : Option (Int) := spec_blockType_F N N p0 p1 p2
def spec_validNormal_L1 (N : Nat) (p0 : RNormal) : Nat → Int → Option ((Bool) ⊕ (Unit))
 | 0, _ => none
 | n + 1, i11 =>
  if (decide (i11 < (Sh.len p0.routines))) = true then
   Option.bind (Sh.get p0.routines i11) fun c19 =>
   Option.bind (
    Option.bind (spec_stepsOf N c19.body) fun q25 =>
    if (decide (q25 < 0)) = true then
     some true
    else
     Option.bind (spec_blockType N p0 c19.params c19.body) fun q27 =>
     some (!decide (q27 = c19.result))
   ) fun t21 =>
   if t21 = true then
    some (Sum.inl false)
   else
    spec_validNormal_L1 N p0 n (Sh.w (i11 + 1))
  else
   some (Sum.inr ())
def spec_validNormal (N : Nat) (p0 : RNormal) : Option (Bool) :=
 Option.bind (spec_validNormalSigs N p0) fun q4 =>
 if (!q4) = true then
  some false
 else
  Sh.cont (spec_validNormal_L1 N p0 N 0) (id) fun () =>
  some true
def impl_normalSigs_L1 (p0 : RNormal) : Nat → Int → (List RSignature) → Option ((List RSignature))
 | 0, _, _ => none
 | n + 1, t9, l10 =>
  if (decide (t9 < (Sh.len p0.routines))) = true then
   Option.bind (Sh.get p0.routines t9) fun c20 =>
   Option.bind (Sh.app l10 [(RSignature.mk c20.params c20.lent c20.result)] 56) fun l21 =>
   impl_normalSigs_L1 p0 n (Sh.w (t9 + 1)) l21
  else
   some l10
def impl_normalSigs (N : Nat) (p0 : RNormal) : Option (RSignatures × Bool) :=
 if (decide (4 < (Sh.len p0.routines))) = true then
  some ((RSignatures.mk [] []), false)
 else
  Option.bind (impl_normalSigs_L1 p0 N 0 []) fun l11 =>
  Option.bind (impl_validSigs N p0.decls l11) fun q14 =>
  some ((RSignatures.mk p0.decls l11), q14)
def impl_signatures_kidsType_L1 (N : Nat) (p0 : RSignatures) (p1 : (List Int)) (p2 : (List Block)) (p3 : (List (List Int))) (rec_impl_signatures_blockType : RSignatures → (List Int) → Block → Option (Int)) : Nat → Int → Int → Option ((Int × Bool) ⊕ (Int))
 | 0, _, _ => none
 | n + 1, result5, t6 =>
  if (decide (t6 < (Sh.len p2))) = true then
   Option.bind (Sh.get p2 t6) fun c15 =>
   Option.bind (Sh.get p3 t6) fun c17 =>
   Option.bind (slices_Concat_int_int N [p1, c17]) fun q18 =>
   Option.bind (rec_impl_signatures_blockType p0 q18 c15) fun q19 =>
   Option.bind (
    if (decide (q19 < 0)) = true then
     some true
    else
    if (decide (0 < t6)) = true then
     some (!decide (q19 = result5))
    else
     some false
   ) fun t22 =>
   if t22 = true then
    some (Sum.inl (-1, false))
   else
    impl_signatures_kidsType_L1 N p0 p1 p2 p3 rec_impl_signatures_blockType n q19 (Sh.w (t6 + 1))
  else
   some (Sum.inr result5)
def impl_signatures_kidsType (N : Nat) (rec_impl_signatures_blockType : RSignatures → (List Int) → Block → Option (Int)) (p0 : RSignatures) (p1 : (List Int)) (p2 : (List Block)) (p3 : (List (List Int))) : Option (Int × Bool) :=
 Sh.cont (impl_signatures_kidsType_L1 N p0 p1 p2 p3 rec_impl_signatures_blockType N (-1) 0) (id) fun result7 =>
 some (result7, true)
def impl_signatures_armFields_L1 (N : Nat) (p0 : RSignatures) (q5 : (List Int)) : Nat → Int → (List (List Int)) → Option ((List (List Int)))
 | 0, _, _ => none
 | n + 1, t6, l7 =>
  if (decide (t6 < (Sh.len q5))) = true then
   Option.bind (Sh.get q5 t6) fun c16 =>
   Option.bind (impl_fieldsOf N p0.decls c16) fun q17 =>
   Option.bind (Sh.app l7 [q17] 24) fun l18 =>
   impl_signatures_armFields_L1 N p0 q5 n (Sh.w (t6 + 1)) l18
  else
   some l7
def impl_signatures_armFields (N : Nat) (p0 : RSignatures) (p1 : Int) : Option ((List (List Int))) :=
 Option.bind (impl_consOf N p0.decls p1) fun q5 =>
 Option.bind (impl_signatures_armFields_L1 N p0 q5 N 0 []) fun l8 =>
 some l8
def impl_signatures_stepType_L1 (p1 : (List Int)) (p2 : Step) : Nat → Int → (List Int) → Option ((Int × Bool) ⊕ ((List Int)))
 | 0, _, _ => none
 | n + 1, t6, l7 =>
  if (decide (t6 < (Sh.len p2.args))) = true then
   Option.bind (Sh.get p2.args t6) fun c94 =>
   Option.bind (
    if (decide (c94 < 0)) = true then
     some true
    else
     some (decide ((Sh.len p1) ≤ c94))
   ) fun t97 =>
   if t97 = true then
    some (Sum.inl (-1, false))
   else
    Option.bind (Sh.get p1 c94) fun c101 =>
    Option.bind (Sh.app l7 [c101] 8) fun l102 =>
    impl_signatures_stepType_L1 p1 p2 n (Sh.w (t6 + 1)) l102
  else
   some (Sum.inr l7)
def impl_signatures_stepType (N : Nat) (rec_impl_signatures_blockType : RSignatures → (List Int) → Block → Option (Int)) (p0 : RSignatures) (p1 : (List Int)) (p2 : Step) : Option (Int × Bool) :=
 Option.bind (Sh.mk 0 (Sh.len p2.args) 8) fun l3 =>
 Sh.cont (impl_signatures_stepType_L1 p1 p2 N 0 []) (id) fun l8 =>
 Option.bind (
  if (!decide (p2.into = 0)) = true then
   if (!decide (p2.op = 6)) = true then
    some true
   else
   if (decide (p2.into < 1)) = true then
    some true
   else
   if (decide ((Sh.len p1) < p2.into)) = true then
    some true
   else
    Option.bind (Sh.get p1 (Sh.w (p2.into - 1))) fun c88 =>
    some (decide (c88 = 0))
  else
   some false
 ) fun t12 =>
 if t12 = true then
  some (-1, false)
 else
  Option.bind (impl_isCounting p2.op) fun q18 =>
  if q18 = true then
   Option.bind (
    if (decide ((Sh.len l8) = 1)) = true then
     Option.bind (Sh.get l8 0) fun c38 =>
     if (!decide (c38 = 0)) = true then
      if (decide (p2.num = 0)) = true then
       some (decide ((Sh.len p2.kids) = 0))
      else
       some false
     else
      some false
    else
     some false
   ) fun ok21 =>
   Option.bind (
    Option.bind (
     if ok21 = true then
      if (decide (p2.op = 16)) = true then
       some true
      else
       some (decide (p2.op = 17))
     else
      some false
    ) fun t28 =>
    if t28 = true then
     Option.bind (Sh.get l8 0) fun c32 =>
     Option.bind (impl_arrowAt p0.decls c32) fun q33 =>
     some (!q33.2)
    else
     some ok21
   ) fun ok24 =>
   some (-1, ok24)
  else
  if (decide (p2.op = 7)) = true then
   Option.bind (
    if (!decide ((Sh.len l8) = 1)) = true then
     some true
    else
     Option.bind (Sh.get l8 0) fun c53 =>
     if (!decide (c53 = 0)) = true then
      some true
     else
     if (!decide (p2.num = 0)) = true then
      some true
     else
      some (!decide ((Sh.len p2.kids) = 2))
   ) fun t45 =>
   if t45 = true then
    some (-1, false)
   else
    Option.bind (Sh.mk [] 2 24) fun l50 =>
    Option.bind (impl_signatures_kidsType N rec_impl_signatures_blockType p0 p1 p2.kids l50) fun q51 =>
    some (q51.1, q51.2)
  else
  if (decide (p2.op = 8)) = true then
   Option.bind (impl_signatures_armFields N p0 p2.num) fun q59 =>
   Option.bind (
    if (!decide ((Sh.len l8) = 1)) = true then
     some true
    else
     Option.bind (Sh.get l8 0) fun c69 =>
     if (!decide (c69 = p2.num)) = true then
      some true
     else
     if (decide ((Sh.len q59) = 0)) = true then
      some true
     else
      some (!decide ((Sh.len p2.kids) = (Sh.len q59)))
   ) fun t62 =>
   if t62 = true then
    some (-1, false)
   else
    Option.bind (impl_signatures_kidsType N rec_impl_signatures_blockType p0 p1 p2.kids q59) fun q67 =>
    some (q67.1, q67.2)
  else
   Option.bind (
    if (decide (0 < (Sh.len p2.kids))) = true then
     some true
    else
    if (decide (p2.op = 10)) = true then
     if (decide (0 ≤ p2.num)) = true then
      if (decide (p2.num < (Sh.len p0.funcs))) = true then
       Option.bind (Sh.get p0.funcs p2.num) fun c83 =>
       some (decide (0 < (Sh.len c83.lent)))
      else
       some false
     else
      some false
    else
     some false
   ) fun t73 =>
   if t73 = true then
    some (-1, false)
   else
    Option.bind (impl_signatures_simpleType N p0 p2.op p2.num l8) fun q78 =>
    some (q78.1, q78.2)
def impl_signatures_blockType_B_L1 (N : Nat) (p0 : RSignatures) (p2 : Block) (rec_impl_signatures_blockType : RSignatures → (List Int) → Block → Option (Int)) : Nat → Int → (List Int) → Option ((Int) ⊕ ((List Int)))
 | 0, _, _ => none
 | n + 1, t6, l7 =>
  if (decide (t6 < (Sh.len p2.steps))) = true then
   Sh.cont (
    Option.bind (Sh.get p2.steps t6) fun c26 =>
    Option.bind (impl_signatures_stepType N rec_impl_signatures_blockType p0 l7 c26) fun q28 =>
    if (!q28.2) = true then
     some (Sum.inl (Sum.inl (-1)))
    else
     Option.bind (impl_isCounting c26.op) fun q36 =>
     if (!q36) = true then
      Option.bind (Sh.app l7 [q28.1] 8) fun l39 =>
      some (Sum.inr l39)
     else
      some (Sum.inr l7)
   ) (id) fun l23 =>
   impl_signatures_blockType_B_L1 N p0 p2 rec_impl_signatures_blockType n (Sh.w (t6 + 1)) l23
  else
   some (Sum.inr l7)
def impl_signatures_blockType_B (N : Nat) (rec_impl_signatures_blockType : RSignatures → (List Int) → Block → Option (Int)) (p0 : RSignatures) (p1 : (List Int)) (p2 : Block) : Option (Int) :=
 Option.bind (slices_Clone_int_int p1) fun q3 =>
 Sh.cont (impl_signatures_blockType_B_L1 N p0 p2 rec_impl_signatures_blockType N 0 q3) (id) fun l8 =>
 Option.bind (
  if (decide (p2.result < 0)) = true then
   some true
  else
   some (decide ((Sh.len l8) ≤ p2.result))
 ) fun t12 =>
 if t12 = true then
  some (-1)
 else
  Option.bind (Sh.get l8 p2.result) fun c17 =>
  some c17
def impl_signatures_blockType_F (N : Nat) : Nat → RSignatures → (List Int) → Block → Option (Int)
 | 0, _, _, _ => none
 | n + 1, p0, p1, p2 => impl_signatures_blockType_B N (impl_signatures_blockType_F N n) p0 p1 p2
def impl_signatures_blockType (N : Nat) (p0 : RSignatures) (p1 : (List Int)) (p2 : Block) : Option (Int) := impl_signatures_blockType_F N N p0 p1 p2
def impl_ValidNormal_L1 (N : Nat) (p0 : RNormal) (q3 : RSignatures × Bool) : Nat → Int → Option ((Bool) ⊕ (Unit))
 | 0, _ => none
 | n + 1, t12 =>
  if (decide (t12 < (Sh.len p0.routines))) = true then
   Option.bind (Sh.get p0.routines t12) fun c20 =>
   Option.bind (
    Option.bind (impl_StepsOf N c20.body) fun q26 =>
    if (decide (q26 < 0)) = true then
     some true
    else
     Option.bind (impl_signatures_blockType N q3.1 c20.params c20.body) fun q28 =>
     some (!decide (q28 = c20.result))
   ) fun t22 =>
   if t22 = true then
    some (Sum.inl false)
   else
    impl_ValidNormal_L1 N p0 q3 n (Sh.w (t12 + 1))
  else
   some (Sum.inr ())
def impl_ValidNormal (N : Nat) (p0 : RNormal) : Option (Bool) :=
 Option.bind (impl_normalSigs N p0) fun q3 =>
 if (!q3.2) = true then
  some false
 else
  Sh.cont (impl_ValidNormal_L1 N p0 q3 N 0) (id) fun () =>
  some true
def laws_eqRoutine (N : Nat) (p0 : RRoutine) (p1 : RRoutine) : Option (Bool) :=
 Option.bind (laws_eqIntS N p0.params p1.params) fun q4 =>
 if (!q4) = true then
  some false
 else
  Option.bind (laws_eqIntS N p0.lent p1.lent) fun q11 =>
  if (!q11) = true then
   some false
  else
  if (!decide (p0.result = p1.result)) = true then
   some false
  else
   Option.bind (laws_eqBlock N p0.body p1.body) fun q24 =>
   if (!q24) = true then
    some false
   else
    some true
def laws_eqRoutineS_L1 (N : Nat) (p0 : (List RRoutine)) (p1 : (List RRoutine)) : Nat → Int → Option ((Bool) ⊕ (Unit))
 | 0, _ => none
 | n + 1, i10 =>
  if (decide (i10 < (Sh.len p0))) = true then
   Option.bind (Sh.get p0 i10) fun c18 =>
   Option.bind (Sh.get p1 i10) fun c19 =>
   Option.bind (laws_eqRoutine N c18 c19) fun q20 =>
   if (!q20) = true then
    some (Sum.inl false)
   else
    laws_eqRoutineS_L1 N p0 p1 n (Sh.w (i10 + 1))
  else
   some (Sum.inr ())
def laws_eqRoutineS (N : Nat) (p0 : (List RRoutine)) (p1 : (List RRoutine)) : Option (Bool) :=
 if (!decide ((Sh.len p0) = (Sh.len p1))) = true then
  some false
 else
  Sh.cont (laws_eqRoutineS_L1 N p0 p1 N 0) (id) fun () =>
  some true
def laws_eqNormal (N : Nat) (p0 : RNormal) (p1 : RNormal) : Option (Bool) :=
 Option.bind (laws_eqDeclS N p0.decls p1.decls) fun q4 =>
 if (!q4) = true then
  some false
 else
  Option.bind (laws_eqRoutineS N p0.routines p1.routines) fun q11 =>
  if (!q11) = true then
   some false
  else
   some true
end RC

