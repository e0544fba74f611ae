import Derived.Test.YteoiihebkhmgoaaGEncToEncB
import Derived.Test.YteoiihebkhmgoaaGEncCToSSDefs
import Derived.Test.YteoiihebkhmgoaaCopyC
namespace RC
def laws_szIntS (p0 : (List Int)) (p1 : Int) : Option (Int) :=
 if (decide ((Sh.w (p1 - (Sh.len p0))) < 0)) = true then
  some (-1)
 else
  some (Sh.w (p1 - (Sh.len p0)))
def laws_toIntS_L1 (p0 : (List Int)) : Nat → Int → (List Int) → Option ((List Int))
 | 0, _, _ => none
 | n + 1, i6, l7 =>
  if (decide (i6 < (Sh.len p0))) = true then
   Option.bind (Sh.get p0 i6) fun c15 =>
   Option.bind (Sh.get l7 i6) fun c16 =>
   laws_toIntS_L1 p0 n (Sh.w (i6 + 1)) (Sh.put l7 i6 c15)
  else
   some l7
def laws_toIntS (N : Nat) (p0 : (List Int)) : Option ((List Int)) :=
 Option.bind (Sh.mk 0 (Sh.len p0) 8) fun l3 =>
 Option.bind (laws_toIntS_L1 p0 N 0 l3) fun l8 =>
 some l8
def spec_inRange (p0 : Int) (p1 : Int) (p2 : Int) : Option (Bool) :=
 Option.bind (
  if (decide (p1 ≤ p0)) = true then
   some (decide (p0 ≤ p2))
  else
   some false
 ) fun t3 =>
 some t3
def spec_allZero_L1 (p0 : (List Int)) : Nat → Int → Option ((Bool) ⊕ (Unit))
 | 0, _ => none
 | n + 1, i4 =>
  if (decide (i4 < (Sh.len p0))) = true then
   Option.bind (Sh.get p0 i4) fun c12 =>
   if (!decide (c12 = 0)) = true then
    some (Sum.inl false)
   else
    spec_allZero_L1 p0 n (Sh.w (i4 + 1))
  else
   some (Sum.inr ())
def laws_eqIntS_L1 (p0 : (List Int)) (p1 : (List Int)) : Nat → Int → Option ((Bool) ⊕ (Unit))
 | 0, _ => none
 | n + 1, i10 =>
  if (decide (i10 < (Sh.len p0))) = true then
   Option.bind (Sh.get p0 i10) fun c18 =>
   Option.bind (Sh.get p1 i10) fun c19 =>
   if (!decide (c18 = c19)) = true then
    some (Sum.inl false)
   else
    laws_eqIntS_L1 p0 p1 n (Sh.w (i10 + 1))
  else
   some (Sum.inr ())
def laws_eqIntS (N : Nat) (p0 : (List Int)) (p1 : (List Int)) : Option (Bool) :=
 if (!decide ((Sh.len p0) = (Sh.len p1))) = true then
  some false
 else
  Sh.cont (laws_eqIntS_L1 p0 p1 N 0) (id) fun () =>
  some true
def laws_eqCell (N : Nat) (p0 : Cell) (p1 : Cell) : Option (Bool) :=
 if (!decide (p0.count = p1.count)) = true then
  some false
 else
 if (!decide (p0.tag = p1.tag)) = true then
  some false
 else
  Option.bind (laws_eqIntS N p0.fields p1.fields) fun q16 =>
  if (!q16) = true then
   some false
  else
   some true
def laws_eqCellS_L1 (N : Nat) (p0 : (List Cell)) (p1 : (List Cell)) : Nat → Int → Option ((Bool) ⊕ (Unit))
 | 0, _ => none
 | n + 1, i10 =>
  if (decide (i10 < (Sh.len p0))) = true then
   Option.bind (Sh.get p0 i10) fun c18 =>
   Option.bind (Sh.get p1 i10) fun c19 =>
   Option.bind (laws_eqCell N c18 c19) fun q20 =>
   if (!q20) = true then
    some (Sum.inl false)
   else
    laws_eqCellS_L1 N p0 p1 n (Sh.w (i10 + 1))
  else
   some (Sum.inr ())
def laws_eqCellS (N : Nat) (p0 : (List Cell)) (p1 : (List Cell)) : Option (Bool) :=
 if (!decide ((Sh.len p0) = (Sh.len p1))) = true then
  some false
 else
  Sh.cont (laws_eqCellS_L1 N p0 p1 N 0) (id) fun () =>
  some true
end RC


namespace RC
def laws_szCon (p0 : RCon) (p1 : Int) : Option (Int) :=
 Option.bind (laws_szIntS p0.fields p1) fun q3 =>
 if (decide (q3 < 0)) = true then
  some (-1)
 else
  some q3
def laws_szConS_L1 (p0 : (List RCon)) : Nat → Int → Int → Option ((Int) ⊕ (Int))
 | 0, _, _ => none
 | n + 1, left9, i10 =>
  if (decide (i10 < (Sh.len p0))) = true then
   Option.bind (Sh.get p0 i10) fun c19 =>
   Option.bind (laws_szCon c19 left9) fun q20 =>
   if (decide (q20 < 0)) = true then
    some (Sum.inl (-1))
   else
    laws_szConS_L1 p0 n q20 (Sh.w (i10 + 1))
  else
   some (Sum.inr left9)
def laws_szConS (N : Nat) (p0 : (List RCon)) (p1 : Int) : Option (Int) :=
 if (decide ((Sh.w (p1 - (Sh.len p0))) < 0)) = true then
  some (-1)
 else
  Sh.cont (laws_szConS_L1 p0 N (Sh.w (p1 - (Sh.len p0))) 0) (id) fun left11 =>
  some left11
def laws_szDecl (N : Nat) (p0 : RDecl) (p1 : Int) : Option (Int) :=
 Option.bind (laws_szConS N p0.cons p1) fun q3 =>
 if (decide (q3 < 0)) = true then
  some (-1)
 else
  some q3
def laws_szDeclS_L1 (N : Nat) (p0 : (List RDecl)) : Nat → Int → Int → Option ((Int) ⊕ (Int))
 | 0, _, _ => none
 | n + 1, left9, i10 =>
  if (decide (i10 < (Sh.len p0))) = true then
   Option.bind (Sh.get p0 i10) fun c19 =>
   Option.bind (laws_szDecl N c19 left9) fun q20 =>
   if (decide (q20 < 0)) = true then
    some (Sum.inl (-1))
   else
    laws_szDeclS_L1 N p0 n q20 (Sh.w (i10 + 1))
  else
   some (Sum.inr left9)
def laws_szDeclS (N : Nat) (p0 : (List RDecl)) (p1 : Int) : Option (Int) :=
 if (decide ((Sh.w (p1 - (Sh.len p0))) < 0)) = true then
  some (-1)
 else
  Sh.cont (laws_szDeclS_L1 N p0 N (Sh.w (p1 - (Sh.len p0))) 0) (id) fun left11 =>
  some left11
def laws_szInstr (p0 : RInstr) (p1 : Int) : Option (Int) :=
 Option.bind (laws_szIntS p0.args p1) fun q3 =>
 if (decide (q3 < 0)) = true then
  some (-1)
 else
  Option.bind (laws_szIntS p0.jumps q3) fun q9 =>
  if (decide (q9 < 0)) = true then
   some (-1)
  else
   some q9
def laws_szInstrS_L1 (p0 : (List RInstr)) : Nat → Int → Int → Option ((Int) ⊕ (Int))
 | 0, _, _ => none
 | n + 1, left9, i10 =>
  if (decide (i10 < (Sh.len p0))) = true then
   Option.bind (Sh.get p0 i10) fun c19 =>
   Option.bind (laws_szInstr c19 left9) fun q20 =>
   if (decide (q20 < 0)) = true then
    some (Sum.inl (-1))
   else
    laws_szInstrS_L1 p0 n q20 (Sh.w (i10 + 1))
  else
   some (Sum.inr left9)
def laws_szInstrS (N : Nat) (p0 : (List RInstr)) (p1 : Int) : Option (Int) :=
 if (decide ((Sh.w (p1 - (Sh.len p0))) < 0)) = true then
  some (-1)
 else
  Sh.cont (laws_szInstrS_L1 p0 N (Sh.w (p1 - (Sh.len p0))) 0) (id) fun left11 =>
  some left11
def laws_szProc (N : Nat) (p0 : RProc) (p1 : Int) : Option (Int) :=
 Option.bind (laws_szIntS p0.params p1) fun q3 =>
 if (decide (q3 < 0)) = true then
  some (-1)
 else
  Option.bind (laws_szIntS p0.lent q3) fun q9 =>
  if (decide (q9 < 0)) = true then
   some (-1)
  else
   Option.bind (laws_szInstrS N p0.code q9) fun q15 =>
   if (decide (q15 < 0)) = true then
    some (-1)
   else
    some q15
def laws_szProcS_L1 (N : Nat) (p0 : (List RProc)) : Nat → Int → Int → Option ((Int) ⊕ (Int))
 | 0, _, _ => none
 | n + 1, left9, i10 =>
  if (decide (i10 < (Sh.len p0))) = true then
   Option.bind (Sh.get p0 i10) fun c19 =>
   Option.bind (laws_szProc N c19 left9) fun q20 =>
   if (decide (q20 < 0)) = true then
    some (Sum.inl (-1))
   else
    laws_szProcS_L1 N p0 n q20 (Sh.w (i10 + 1))
  else
   some (Sum.inr left9)
def laws_szProcS (N : Nat) (p0 : (List RProc)) (p1 : Int) : Option (Int) :=
 if (decide ((Sh.w (p1 - (Sh.len p0))) < 0)) = true then
  some (-1)
 else
  Sh.cont (laws_szProcS_L1 N p0 N (Sh.w (p1 - (Sh.len p0))) 0) (id) fun left11 =>
  some left11
def laws_szImage (N : Nat) (p0 : RImage) (p1 : Int) : Option (Int) :=
 Option.bind (laws_szDeclS N p0.decls p1) fun q3 =>
 if (decide (q3 < 0)) = true then
  some (-1)
 else
  Option.bind (laws_szProcS N p0.procs q3) fun q9 =>
  if (decide (q9 < 0)) = true then
   some (-1)
  else
   some q9
def laws_toCon (N : Nat) (p0 : RCon) : Option (RCon) :=
 Option.bind (laws_toIntS N p0.fields) fun q4 =>
 some (RCon.mk q4)
def laws_toConS_L1 (N : Nat) (p0 : (List RCon)) : Nat → Int → (List RCon) → Option ((List RCon))
 | 0, _, _ => none
 | n + 1, i6, l7 =>
  if (decide (i6 < (Sh.len p0))) = true then
   Option.bind (Sh.get p0 i6) fun c15 =>
   Option.bind (laws_toCon N c15) fun q16 =>
   Option.bind (Sh.get l7 i6) fun c17 =>
   laws_toConS_L1 N p0 n (Sh.w (i6 + 1)) (Sh.put l7 i6 q16)
  else
   some l7
def laws_toConS (N : Nat) (p0 : (List RCon)) : Option ((List RCon)) :=
 Option.bind (Sh.mk (RCon.mk []) (Sh.len p0) 24) fun l3 =>
 Option.bind (laws_toConS_L1 N p0 N 0 l3) fun l8 =>
 some l8
def laws_toDecl (N : Nat) (p0 : RDecl) : Option (RDecl) :=
 Option.bind (laws_toConS N p0.cons) fun q6 =>
 some (RDecl.mk p0.from_ p0.to q6)
def laws_toDeclS_L1 (N : Nat) (p0 : (List RDecl)) : Nat → Int → (List RDecl) → Option ((List RDecl))
 | 0, _, _ => none
 | n + 1, i6, l7 =>
  if (decide (i6 < (Sh.len p0))) = true then
   Option.bind (Sh.get p0 i6) fun c15 =>
   Option.bind (laws_toDecl N c15) fun q16 =>
   Option.bind (Sh.get l7 i6) fun c17 =>
   laws_toDeclS_L1 N p0 n (Sh.w (i6 + 1)) (Sh.put l7 i6 q16)
  else
   some l7
def laws_toDeclS (N : Nat) (p0 : (List RDecl)) : Option ((List RDecl)) :=
 Option.bind (Sh.mk (RDecl.mk 0 0 []) (Sh.len p0) 40) fun l3 =>
 Option.bind (laws_toDeclS_L1 N p0 N 0 l3) fun l8 =>
 some l8
def laws_toInstr (N : Nat) (p0 : RInstr) : Option (RInstr) :=
 Option.bind (laws_toIntS N p0.args) fun q8 =>
 Option.bind (laws_toIntS N p0.jumps) fun q10 =>
 some (RInstr.mk p0.op p0.dst p0.num p0.into q8 q10)
def laws_toInstrS_L1 (N : Nat) (p0 : (List RInstr)) : Nat → Int → (List RInstr) → Option ((List RInstr))
 | 0, _, _ => none
 | n + 1, i6, l7 =>
  if (decide (i6 < (Sh.len p0))) = true then
   Option.bind (Sh.get p0 i6) fun c15 =>
   Option.bind (laws_toInstr N c15) fun q16 =>
   Option.bind (Sh.get l7 i6) fun c17 =>
   laws_toInstrS_L1 N p0 n (Sh.w (i6 + 1)) (Sh.put l7 i6 q16)
  else
   some l7
def laws_toInstrS (N : Nat) (p0 : (List RInstr)) : Option ((List RInstr)) :=
 Option.bind (Sh.mk (RInstr.mk 0 0 0 0 [] []) (Sh.len p0) 80) fun l3 =>
 Option.bind (laws_toInstrS_L1 N p0 N 0 l3) fun l8 =>
 some l8
def laws_toProc (N : Nat) (p0 : RProc) : Option (RProc) :=
 Option.bind (laws_toIntS N p0.params) fun q4 =>
 Option.bind (laws_toIntS N p0.lent) fun q6 =>
 Option.bind (laws_toInstrS N p0.code) fun q10 =>
 some (RProc.mk q4 q6 p0.result p0.regs q10)
def laws_toProcS_L1 (N : Nat) (p0 : (List RProc)) : Nat → Int → (List RProc) → Option ((List RProc))
 | 0, _, _ => none
 | n + 1, i6, l7 =>
  if (decide (i6 < (Sh.len p0))) = true then
   Option.bind (Sh.get p0 i6) fun c15 =>
   Option.bind (laws_toProc N c15) fun q16 =>
   Option.bind (Sh.get l7 i6) fun c17 =>
   laws_toProcS_L1 N p0 n (Sh.w (i6 + 1)) (Sh.put l7 i6 q16)
  else
   some l7
def laws_toProcS (N : Nat) (p0 : (List RProc)) : Option ((List RProc)) :=
 Option.bind (Sh.mk (RProc.mk [] [] 0 0 []) (Sh.len p0) 88) fun l3 =>
 Option.bind (laws_toProcS_L1 N p0 N 0 l3) fun l8 =>
 some l8
def laws_toImage (N : Nat) (p0 : RImage) : Option (RImage) :=
 Option.bind (laws_toDeclS N p0.decls) fun q4 =>
 Option.bind (laws_toProcS N p0.procs) fun q6 =>
 some (RImage.mk q4 q6)
def spec_sigsOfImage_L1 (p0 : RImage) : Nat → Int → (List RFunc) → Option ((List RFunc))
 | 0, _, _ => none
 | n + 1, i5, l6 =>
  if (decide (i5 < (Sh.len p0.procs))) = true then
   Option.bind (Sh.get p0.procs i5) fun c14 =>
   Option.bind (Sh.app l6 ([(RFunc.mk c14.params c14.result (RExpr.mk 0 0 []))]) 72) fun l15 =>
   spec_sigsOfImage_L1 p0 n (Sh.w (i5 + 1)) l15
  else
   some l6
def spec_sigsOfImage (N : Nat) (p0 : RImage) : Option (RProgram) :=
 Option.bind (spec_sigsOfImage_L1 p0 N 0 []) fun l7 =>
 some (RProgram.mk p0.decls l7)
def spec_allTypes_L1 (p0 : (List RDecl)) (p1 : (List Int)) : Nat → Int → Option ((Bool) ⊕ (Unit))
 | 0, _ => none
 | n + 1, i4 =>
  if (decide (i4 < (Sh.len p1))) = true then
   Option.bind (Sh.get p1 i4) fun c12 =>
   Option.bind (spec_inRange c12 0 (Sh.len p0)) fun q13 =>
   if (!q13) = true then
    some (Sum.inl false)
   else
    spec_allTypes_L1 p0 p1 n (Sh.w (i4 + 1))
  else
   some (Sum.inr ())
def spec_allTypes (N : Nat) (p0 : (List RDecl)) (p1 : (List Int)) : Option (Bool) :=
 Sh.cont (spec_allTypes_L1 p0 p1 N 0) (id) fun () =>
 some true
def spec_validDecl_L1 (N : Nat) (c3 : RDecl) (p0 : (List RDecl)) : Nat → Int → Option ((Bool) ⊕ (Unit))
 | 0, _ => none
 | n + 1, i15 =>
  if (decide (i15 < (Sh.len c3.cons))) = true then
   Option.bind (
    Option.bind (Sh.get c3.cons i15) fun c27 =>
    if (decide (3 < (Sh.len c27.fields))) = true then
     some true
    else
     Option.bind (spec_allTypes N p0 c27.fields) fun q29 =>
     some (!q29)
   ) fun t23 =>
   if t23 = true then
    some (Sum.inl false)
   else
    spec_validDecl_L1 N c3 p0 n (Sh.w (i15 + 1))
  else
   some (Sum.inr ())
def spec_validDecl_L2 (c3 : RDecl) (p0 : (List RDecl)) (p1 : Int) : Nat → Int → Option ((Bool) ⊕ (Unit))
 | 0, _ => none
 | n + 1, i34 =>
  if (decide (i34 < p1)) = true then
   Option.bind (
    Option.bind (Sh.get p0 i34) fun c51 =>
    if (decide ((Sh.len c51.cons) = 0)) = true then
     if (decide (c51.from_ = c3.from_)) = true then
      some (decide (c51.to = c3.to))
     else
      some false
    else
     some false
   ) fun t47 =>
   if t47 = true then
    some (Sum.inl false)
   else
    spec_validDecl_L2 c3 p0 p1 n (Sh.w (i34 + 1))
  else
   some (Sum.inr ())
def spec_validDecl (N : Nat) (p0 : (List RDecl)) (p1 : Int) : Option (Bool) :=
 Option.bind (Sh.get p0 p1) fun c3 =>
 if (decide (0 < (Sh.len c3.cons))) = true then
  Option.bind (
   if (decide (3 < (Sh.len c3.cons))) = true then
    some true
   else
   if (!decide (c3.from_ = 0)) = true then
    some true
   else
    some (!decide (c3.to = 0))
  ) fun t9 =>
  if t9 = true then
   some false
  else
   Sh.cont (spec_validDecl_L1 N c3 p0 N 0) (id) fun () =>
   some true
 else
  Sh.cont (spec_validDecl_L2 c3 p0 p1 N 0) (id) fun () =>
  Option.bind (
   Option.bind (spec_inRange c3.from_ 0 (Sh.len p0)) fun q39 =>
   if q39 = true then
    Option.bind (spec_inRange c3.to 0 (Sh.len p0)) fun q41 =>
    some q41
   else
    some false
  ) fun t37 =>
  some t37
def spec_validTypes_L1 (N : Nat) (p0 : (List RDecl)) : Nat → Int → Option ((Bool) ⊕ (Unit))
 | 0, _ => none
 | n + 1, i8 =>
  if (decide (i8 < (Sh.len p0))) = true then
   Option.bind (spec_validDecl N p0 i8) fun q16 =>
   if (!q16) = true then
    some (Sum.inl false)
   else
    spec_validTypes_L1 N p0 n (Sh.w (i8 + 1))
  else
   some (Sum.inr ())
def spec_validTypes (N : Nat) (p0 : (List RDecl)) : Option (Bool) :=
 if (decide (4 < (Sh.len p0))) = true then
  some false
 else
  Sh.cont (spec_validTypes_L1 N p0 N 0) (id) fun () =>
  some true
def spec_validSigs_L1 (N : Nat) (p0 : RProgram) : Nat → Int → Option ((Bool) ⊕ (Unit))
 | 0, _ => none
 | n + 1, i10 =>
  if (decide (i10 < (Sh.len p0.funcs))) = true then
   Option.bind (Sh.get p0.funcs i10) fun c22 =>
   Option.bind (
    if (decide (3 < (Sh.len c22.params))) = true then
     some true
    else
     Option.bind (spec_allTypes N p0.decls c22.params) fun q29 =>
     if (!q29) = true then
      some true
     else
      Option.bind (spec_inRange c22.result 0 (Sh.len p0.decls)) fun q31 =>
      some (!q31)
   ) fun t24 =>
   if t24 = true then
    some (Sum.inl false)
   else
    spec_validSigs_L1 N p0 n (Sh.w (i10 + 1))
  else
   some (Sum.inr ())
def spec_validSigs (N : Nat) (p0 : RProgram) : Option (Bool) :=
 Option.bind (
  Option.bind (spec_validTypes N p0.decls) fun q32 =>
  if (!q32) = true then
   some true
  else
   Option.bind (spec_inRange (Sh.len p0.funcs) 1 4) fun q34 =>
   some (!q34)
 ) fun t4 =>
 if t4 = true then
  some false
 else
  Sh.cont (spec_validSigs_L1 N p0 N 0) (id) fun () =>
  Option.bind (
   Option.bind (Sh.get p0.funcs 0) fun c15 =>
   if (decide ((Sh.len c15.params) = 0)) = true then
    some (decide (c15.result = 0))
   else
    some false
  ) fun t13 =>
  some t13
def spec_validLent_L1 (p0 : (List Int)) (p1 : (List Int)) : Nat → Int → Option ((Bool) ⊕ (Unit))
 | 0, _ => none
 | n + 1, i4 =>
  if (decide (i4 < (Sh.len p1))) = true then
   Option.bind (
    Option.bind (Sh.get p1 i4) fun c16 =>
    Option.bind (spec_inRange c16 0 (Sh.w ((Sh.len p0) - 1))) fun q17 =>
    if (!q17) = true then
     some true
    else
     Option.bind (Sh.get p0 c16) fun c19 =>
     if (decide (c19 = 0)) = true then
      some true
     else
     if (decide (0 < i4)) = true then
      Option.bind (Sh.get p1 (Sh.w (i4 - 1))) fun c22 =>
      some (decide (c16 ≤ c22))
     else
      some false
   ) fun t12 =>
   if t12 = true then
    some (Sum.inl false)
   else
    spec_validLent_L1 p0 p1 n (Sh.w (i4 + 1))
  else
   some (Sum.inr ())
def spec_validLent (N : Nat) (p0 : (List Int)) (p1 : (List Int)) : Option (Bool) :=
 Sh.cont (spec_validLent_L1 p0 p1 N 0) (id) fun () =>
 some true
def spec_defines (p0 : Int) : Option (Bool) :=
 Option.bind (spec_inRange p0 0 11) fun q3 =>
 some q3
def spec_sets (p0 : Int) : Option (Bool) :=
 Option.bind (
  Option.bind (spec_defines p0) fun q5 =>
  if q5 = true then
   if (!decide (p0 = 7)) = true then
    if (!decide (p0 = 8)) = true then
     some true
    else
    if (decide (p0 = 18)) = true then
     some true
    else
     some (decide (p0 = 19))
   else
   if (decide (p0 = 18)) = true then
    some true
   else
    some (decide (p0 = 19))
  else
  if (decide (p0 = 18)) = true then
   some true
  else
   some (decide (p0 = 19))
 ) fun t3 =>
 some t3
def spec_firstCon_L1 (p0 : (List RDecl)) (p1 : Int) : Nat → Int → Int → Option (Int)
 | 0, _, _ => none
 | n + 1, n5, i6 =>
  if (decide (i6 < p1)) = true then
   Option.bind (Sh.get p0 i6) fun c14 =>
   spec_firstCon_L1 p0 p1 n (Sh.w (n5 + (Sh.len c14.cons))) (Sh.w (i6 + 1))
  else
   some n5
def spec_firstCon (N : Nat) (p0 : (List RDecl)) (p1 : Int) : Option (Int) :=
 Option.bind (spec_firstCon_L1 p0 p1 N 0 0) fun n7 =>
 some n7
def spec_conType_L1 (N : Nat) (p0 : (List RDecl)) (p1 : Int) : Nat → Int → Option ((Int) ⊕ (Unit))
 | 0, _ => none
 | n + 1, i4 =>
  if (decide (i4 < (Sh.len p0))) = true then
   Option.bind (spec_firstCon N p0 i4) fun q12 =>
   Option.bind (Sh.get p0 i4) fun c14 =>
   Option.bind (spec_inRange p1 q12 (Sh.w ((Sh.w (q12 + (Sh.len c14.cons))) - 1))) fun q15 =>
   if q15 = true then
    some (Sum.inl (Sh.w (i4 + 1)))
   else
    spec_conType_L1 N p0 p1 n (Sh.w (i4 + 1))
  else
   some (Sum.inr ())
def spec_conType (N : Nat) (p0 : (List RDecl)) (p1 : Int) : Option (Int) :=
 Sh.cont (spec_conType_L1 N p0 p1 N 0) (id) fun () =>
 some (-1)
def spec_conFields (N : Nat) (p0 : (List RDecl)) (p1 : Int) : Option ((List Int)) :=
 Option.bind (spec_conType N p0 p1) fun q3 =>
 if (decide (q3 < 1)) = true then
  some []
 else
  Option.bind (Sh.get p0 (Sh.w (q3 - 1))) fun c9 =>
  Option.bind (spec_firstCon N p0 (Sh.w (q3 - 1))) fun q10 =>
  Option.bind (Sh.get c9.cons (Sh.w (p1 - q10))) fun c11 =>
  some c11.fields
def spec_procWith (p0 : RImage) (p1 : Int) (p2 : Int) (p3 : Int) : Option (Bool) :=
 Option.bind (
  Option.bind (spec_inRange p1 0 (Sh.w ((Sh.len p0.procs) - 1))) fun q5 =>
  if q5 = true then
   Option.bind (Sh.get p0.procs p1) fun c7 =>
   some (decide ((Sh.len c7.params) = (Sh.w (p2 + p3))))
  else
   some false
 ) fun t3 =>
 some t3
def spec_consOf_L1 (N : Nat) (p0 : (List RDecl)) (p1 : Int) : Nat → Int → (List Int) → Option ((List Int))
 | 0, _, _ => none
 | n + 1, i12, l13 =>
  Option.bind (Sh.get p0 (Sh.w (p1 - 1))) fun c19 =>
  if (decide (i12 < (Sh.len c19.cons))) = true then
   Option.bind (spec_firstCon N p0 (Sh.w (p1 - 1))) fun q22 =>
   Option.bind (Sh.app l13 [Sh.w (q22 + i12)] 8) fun l23 =>
   spec_consOf_L1 N p0 p1 n (Sh.w (i12 + 1)) l23
  else
   some l13
def spec_consOf (N : Nat) (p0 : (List RDecl)) (p1 : Int) : Option ((List Int)) :=
 Option.bind (spec_inRange p1 1 (Sh.len p0)) fun q5 =>
 if (!q5) = true then
  some []
 else
  Option.bind (spec_consOf_L1 N p0 p1 N 0 []) fun l14 =>
  some l14
def spec_validJumps_L1 (p0 : (List Int)) (p1 : Int) (p2 : Int) (p3 : Int) : Nat → Int → Option ((Bool) ⊕ (Unit))
 | 0, _ => none
 | n + 1, i10 =>
  if (decide (i10 < p1)) = true then
   Option.bind (Sh.get p0 i10) fun c18 =>
   Option.bind (spec_inRange c18 (Sh.w (p2 + 1)) (Sh.w (p3 - 1))) fun q19 =>
   if (!q19) = true then
    some (Sum.inl false)
   else
    spec_validJumps_L1 p0 p1 p2 p3 n (Sh.w (i10 + 1))
  else
   some (Sum.inr ())
def spec_validJumps (N : Nat) (p0 : (List Int)) (p1 : Int) (p2 : Int) (p3 : Int) : Option (Bool) :=
 if (!decide ((Sh.len p0) = p1)) = true then
  some false
 else
  Sh.cont (spec_validJumps_L1 p0 p1 p2 p3 N 0) (id) fun () =>
  some true
def spec_validInstr_L1 (c3 : RInstr) (p1 : RProc) : Nat → Int → Option ((Bool) ⊕ (Unit))
 | 0, _ => none
 | n + 1, k7 =>
  if (decide (k7 < (Sh.len c3.args))) = true then
   Option.bind (Sh.get c3.args k7) fun c143 =>
   Option.bind (spec_inRange c143 0 (Sh.w (p1.regs - 1))) fun q144 =>
   if (!q144) = true then
    some (Sum.inl false)
   else
    spec_validInstr_L1 c3 p1 n (Sh.w (k7 + 1))
  else
   some (Sum.inr ())
def spec_validInstr (N : Nat) (p0 : RImage) (p1 : RProc) (p2 : Int) : Option (Bool) :=
 Option.bind (Sh.get p1.code p2) fun c3 =>
 Sh.cont (spec_validInstr_L1 c3 p1 N 0) (id) fun () =>
 Option.bind (
  Option.bind (spec_inRange c3.dst 0 (Sh.w (p1.regs - 1))) fun q125 =>
  if (!q125) = true then
   some true
  else
  if (!decide (c3.dst = 0)) = true then
   Option.bind (spec_sets c3.op) fun q128 =>
   if (!q128) = true then
    some true
   else
   if (!decide (c3.into = 0)) = true then
    if (!decide (c3.op = 6)) = true then
     some true
    else
    if (!decide (c3.op = 21)) = true then
     some (decide (0 < (Sh.len c3.jumps)))
    else
     some false
   else
   if (!decide (c3.op = 21)) = true then
    some (decide (0 < (Sh.len c3.jumps)))
   else
    some false
  else
  if (!decide (c3.into = 0)) = true then
   if (!decide (c3.op = 6)) = true then
    some true
   else
   if (!decide (c3.op = 21)) = true then
    some (decide (0 < (Sh.len c3.jumps)))
   else
    some false
  else
  if (!decide (c3.op = 21)) = true then
   some (decide (0 < (Sh.len c3.jumps)))
  else
   some false
 ) fun t11 =>
 if t11 = true then
  some false
 else
 if (decide (c3.op = 0)) = true then
  Option.bind (
   if (decide ((Sh.len c3.args) = 0)) = true then
    Option.bind (spec_inRange c3.num (-999) 999) fun q23 =>
    some q23
   else
    some false
  ) fun t20 =>
  some t20
 else
  Option.bind (
   if (decide (c3.op = 1)) = true then
    some true
   else
   if (decide (c3.op = 2)) = true then
    some true
   else
   if (decide (c3.op = 3)) = true then
    some true
   else
   if (decide (c3.op = 4)) = true then
    some true
   else
    some (decide (c3.op = 11))
  ) fun t25 =>
  if t25 = true then
   Option.bind (
    if (decide ((Sh.len c3.args) = 2)) = true then
     some (decide (c3.num = 0))
    else
     some false
   ) fun t29 =>
   some t29
  else
   Option.bind (
    if (decide (c3.op = 5)) = true then
     some true
    else
    if (decide (c3.op = 14)) = true then
     some true
    else
    if (decide (c3.op = 15)) = true then
     some true
    else
    if (decide (c3.op = 18)) = true then
     some true
    else
     some (decide (c3.op = 23))
   ) fun t33 =>
   if t33 = true then
    Option.bind (
     if (decide ((Sh.len c3.args) = 1)) = true then
      some (decide (c3.num = 0))
     else
      some false
    ) fun t37 =>
    some t37
   else
   if (decide (c3.op = 6)) = true then
    Option.bind (
     Option.bind (spec_conType N p0.decls c3.num) fun q45 =>
     if (decide (0 < q45)) = true then
      Option.bind (spec_conFields N p0.decls c3.num) fun q47 =>
      if (decide ((Sh.len c3.args) = (Sh.len q47))) = true then
       Option.bind (spec_inRange c3.into 0 p1.regs) fun q49 =>
       some q49
      else
       some false
     else
      some false
    ) fun t43 =>
    some t43
   else
    Option.bind (
     if (decide (c3.op = 9)) = true then
      some true
     else
      some (decide (c3.op = 24))
    ) fun t51 =>
    if t51 = true then
     Option.bind (spec_procWith p0 c3.num (Sh.len c3.args) 0) fun q55 =>
     some q55
    else
    if (decide (c3.op = 10)) = true then
     Option.bind (
      Option.bind (spec_procWith p0 c3.num (Sh.len c3.args) 1) fun q61 =>
      if q61 = true then
       Option.bind (Sh.get p0.procs c3.num) fun c63 =>
       some (decide ((Sh.len c63.lent) = 0))
      else
       some false
     ) fun t59 =>
     some t59
    else
     Option.bind (
      if (decide (c3.op = 16)) = true then
       some true
      else
       some (decide (c3.op = 17))
     ) fun t65 =>
     if t65 = true then
      Option.bind (
       Option.bind (spec_inRange (Sh.len c3.args) 1 4) fun q71 =>
       if q71 = true then
        some (decide (c3.num = 0))
       else
        some false
      ) fun t69 =>
      some t69
     else
     if (decide (c3.op = 19)) = true then
      Option.bind (
       if (decide ((Sh.len c3.args) = 1)) = true then
        Option.bind (spec_inRange c3.num 0 2) fun q79 =>
        some q79
       else
        some false
      ) fun t76 =>
      some t76
     else
     if (decide (c3.op = 20)) = true then
      Option.bind (
       if (decide ((Sh.len c3.args) = 1)) = true then
        Option.bind (spec_inRange c3.num (Sh.w (p2 + 1)) (Sh.w ((Sh.len p1.code) - 1))) fun q86 =>
        some q86
       else
        some false
      ) fun t83 =>
      some t83
     else
     if (decide (c3.op = 22)) = true then
      Option.bind (
       if (decide ((Sh.len c3.args) = 0)) = true then
        Option.bind (spec_inRange c3.num (Sh.w (p2 + 1)) (Sh.w ((Sh.len p1.code) - 1))) fun q93 =>
        some q93
       else
        some false
      ) fun t90 =>
      some t90
     else
     if (decide (c3.op = 21)) = true then
      Option.bind (spec_consOf N p0.decls c3.num) fun q97 =>
      Option.bind (
       if (decide ((Sh.len c3.args) = 1)) = true then
        if (decide (0 < (Sh.len q97))) = true then
         Option.bind (spec_validJumps N c3.jumps (Sh.len q97) p2 (Sh.len p1.code)) fun q103 =>
         some q103
        else
         some false
       else
        some false
      ) fun t99 =>
      some t99
     else
      some false
def spec_validProc_L1 (N : Nat) (p0 : RImage) (p1 : RProc) : Nat → Int → Option ((Bool) ⊕ (Unit))
 | 0, _ => none
 | n + 1, at11 =>
  if (decide (at11 < (Sh.len p1.code))) = true then
   Option.bind (spec_validInstr N p0 p1 at11) fun q23 =>
   if (!q23) = true then
    some (Sum.inl false)
   else
    spec_validProc_L1 N p0 p1 n (Sh.w (at11 + 1))
  else
   some (Sum.inr ())
def spec_validProc (N : Nat) (p0 : RImage) (p1 : RProc) : Option (Bool) :=
 Option.bind (
  Option.bind (spec_validLent N p1.params p1.lent) fun q28 =>
  if (!q28) = true then
   some true
  else
   Option.bind (spec_inRange p1.regs (if (Sh.len p1.params) > 1 then (Sh.len p1.params) else 1) 2000) fun q30 =>
   if (!q30) = true then
    some true
   else
    Option.bind (spec_inRange (Sh.len p1.code) 1 2000) fun q32 =>
    some (!q32)
 ) fun t5 =>
 if t5 = true then
  some false
 else
  Sh.cont (spec_validProc_L1 N p0 p1 N 0) (id) fun () =>
  Option.bind (
   Option.bind (Sh.get p1.code (Sh.w ((Sh.len p1.code) - 1))) fun c16 =>
   if (decide (c16.op = 23)) = true then
    some true
   else
    some (decide (c16.op = 24))
  ) fun t14 =>
  some t14
def spec_validImage_L1 (N : Nat) (p0 : RImage) : Nat → Int → Option ((Bool) ⊕ (Unit))
 | 0, _ => none
 | n + 1, i10 =>
  if (decide (i10 < (Sh.len p0.procs))) = true then
   Option.bind (Sh.get p0.procs i10) fun c18 =>
   Option.bind (spec_validProc N p0 c18) fun q19 =>
   if (!q19) = true then
    some (Sum.inl false)
   else
    spec_validImage_L1 N p0 n (Sh.w (i10 + 1))
  else
   some (Sum.inr ())
def spec_validImage (N : Nat) (p0 : RImage) : Option (Bool) :=
 Option.bind (
  if (decide (4 < (Sh.len p0.procs))) = true then
   some true
  else
   Option.bind (spec_sigsOfImage N p0) fun q25 =>
   Option.bind (spec_validSigs N q25) fun q26 =>
   some (!q26)
 ) fun t4 =>
 if t4 = true then
  some false
 else
  Sh.cont (spec_validImage_L1 N p0 N 0) (id) fun () =>
  some true
def spec_ValidImage (N : Nat) (p0 : RImage) : Option (Bool) :=
 Option.bind (spec_validImage N p0) fun q3 =>
 some q3
def impl_isType (p0 : (List RDecl)) (p1 : Int) : Option (Bool) :=
 Option.bind (
  if (decide (0 ≤ p1)) = true then
   some (decide (p1 ≤ (Sh.len p0)))
  else
   some false
 ) fun t3 =>
 some t3
def impl_allTypes_L1 (p0 : (List RDecl)) (p1 : (List Int)) : Nat → Int → Option ((Bool) ⊕ (Unit))
 | 0, _ => none
 | n + 1, t4 =>
  if (decide (t4 < (Sh.len p1))) = true then
   Option.bind (Sh.get p1 t4) fun c12 =>
   Option.bind (impl_isType p0 c12) fun q14 =>
   if (!q14) = true then
    some (Sum.inl false)
   else
    impl_allTypes_L1 p0 p1 n (Sh.w (t4 + 1))
  else
   some (Sum.inr ())
def impl_allTypes (N : Nat) (p0 : (List RDecl)) (p1 : (List Int)) : Option (Bool) :=
 Sh.cont (impl_allTypes_L1 p0 p1 N 0) (id) fun () =>
 some true
def impl_ValidTypes_L3 (c16 : RDecl) (l28 : (List RDecl)) : Nat → Int → Option ((Bool) ⊕ (Unit))
 | 0, _ => none
 | n + 1, t29 =>
  if (decide (t29 < (Sh.len l28))) = true then
   Option.bind (Sh.get l28 t29) fun c36 =>
   Option.bind (
    if (decide ((Sh.len c16.cons) = 0)) = true then
     if (decide ((Sh.len c36.cons) = 0)) = true then
      if (decide (c36.from_ = c16.from_)) = true then
       some (decide (c36.to = c16.to))
      else
       some false
     else
      some false
    else
     some false
   ) fun t38 =>
   if t38 = true then
    some (Sum.inl false)
   else
    impl_ValidTypes_L3 c16 l28 n (Sh.w (t29 + 1))
  else
   some (Sum.inr ())
def impl_ValidTypes_L2 (N : Nat) (c16 : RDecl) (p0 : (List RDecl)) : Nat → Int → Option ((Bool) ⊕ (Unit))
 | 0, _ => none
 | n + 1, t25 =>
  if (decide (t25 < (Sh.len c16.cons))) = true then
   Option.bind (Sh.get c16.cons t25) fun c50 =>
   Option.bind (
    if (decide (3 < (Sh.len c50.fields))) = true then
     some true
    else
     Option.bind (impl_allTypes N p0 c50.fields) fun q57 =>
     some (!q57)
   ) fun t52 =>
   if t52 = true then
    some (Sum.inl false)
   else
    impl_ValidTypes_L2 N c16 p0 n (Sh.w (t25 + 1))
  else
   some (Sum.inr ())
def impl_ValidTypes_L1 (N : Nat) (p0 : (List RDecl)) : Nat → Int → Option ((Bool) ⊕ (Unit))
 | 0, _ => none
 | n + 1, t8 =>
  if (decide (t8 < (Sh.len p0))) = true then
   Option.bind (Sh.get p0 t8) fun c16 =>
   Option.bind (
    Option.bind (impl_isType p0 c16.from_) fun q58 =>
    if (!q58) = true then
     some true
    else
     Option.bind (impl_isType p0 c16.to) fun q60 =>
     if (!q60) = true then
      some true
     else
     if (decide (3 < (Sh.len c16.cons))) = true then
      some true
     else
     if (decide (0 < (Sh.len c16.cons))) = true then
      if (!decide (c16.from_ = 0)) = true then
       some true
      else
       some (!decide (c16.to = 0))
     else
      some false
   ) fun t19 =>
   if t19 = true then
    some (Sum.inl false)
   else
    Sh.cont (impl_ValidTypes_L2 N c16 p0 N 0) (fun x => Sum.inl x) fun () =>
    Option.bind (Sh.sl p0 0 t8) fun l28 =>
    Sh.cont (impl_ValidTypes_L3 c16 l28 N 0) (fun x => Sum.inl x) fun () =>
    impl_ValidTypes_L1 N p0 n (Sh.w (t8 + 1))
  else
   some (Sum.inr ())
def impl_ValidTypes (N : Nat) (p0 : (List RDecl)) : Option (Bool) :=
 if (decide (4 < (Sh.len p0))) = true then
  some false
 else
  Sh.cont (impl_ValidTypes_L1 N p0 N 0) (id) fun () =>
  some true
def impl_validSigs_L2 (c18 : RSignature) : Nat → Int → Option ((Bool) ⊕ (Unit))
 | 0, _ => none
 | n + 1, t26 =>
  if (decide (t26 < (Sh.len c18.lent))) = true then
   Option.bind (Sh.get c18.lent t26) fun c33 =>
   Option.bind (
    if (decide (c33 < 0)) = true then
     some true
    else
    if (decide ((Sh.len c18.params) ≤ c33)) = true then
     some true
    else
     Option.bind (Sh.get c18.params c33) fun c41 =>
     if (decide (c41 = 0)) = true then
      some true
     else
     if (decide (0 < t26)) = true then
      Option.bind (Sh.get c18.lent (Sh.w (t26 - 1))) fun c44 =>
      some (decide (c33 ≤ c44))
     else
      some false
   ) fun t35 =>
   if t35 = true then
    some (Sum.inl false)
   else
    impl_validSigs_L2 c18 n (Sh.w (t26 + 1))
  else
   some (Sum.inr ())
def impl_validSigs_L1 (N : Nat) (p0 : (List RDecl)) (p1 : (List RSignature)) : Nat → Int → Option ((Bool) ⊕ (Unit))
 | 0, _ => none
 | n + 1, t10 =>
  if (decide (t10 < (Sh.len p1))) = true then
   Option.bind (Sh.get p1 t10) fun c18 =>
   Option.bind (
    if (decide (3 < (Sh.len c18.params))) = true then
     some true
    else
     Option.bind (impl_allTypes N p0 c18.params) fun q46 =>
     if (!q46) = true then
      some true
     else
      Option.bind (impl_isType p0 c18.result) fun q48 =>
      some (!q48)
   ) fun t21 =>
   if t21 = true then
    some (Sum.inl false)
   else
    Sh.cont (impl_validSigs_L2 c18 N 0) (fun x => Sum.inl x) fun () =>
    impl_validSigs_L1 N p0 p1 n (Sh.w (t10 + 1))
  else
   some (Sum.inr ())
def impl_validSigs (N : Nat) (p0 : (List RDecl)) (p1 : (List RSignature)) : Option (Bool) :=
 Option.bind (
  Option.bind (impl_ValidTypes N p0) fun q49 =>
  if (!q49) = true then
   some true
  else
  if (decide ((Sh.len p1) < 1)) = true then
   some true
  else
  if (decide (4 < (Sh.len p1))) = true then
   some true
  else
   Option.bind (Sh.get p1 0) fun c53 =>
   if (decide (0 < (Sh.len c53.params))) = true then
    some true
   else
    some (!decide (c53.result = 0))
 ) fun t4 =>
 if t4 = true then
  some false
 else
  Sh.cont (impl_validSigs_L1 N p0 p1 N 0) (id) fun () =>
  some true
def impl_imageSigs_L1 (p0 : RImage) : Nat → Int → (List RSignature) → Option ((List RSignature))
 | 0, _, _ => none
 | n + 1, t9, l10 =>
  if (decide (t9 < (Sh.len p0.procs))) = true then
   Option.bind (Sh.get p0.procs t9) fun c20 =>
   Option.bind (Sh.app l10 [(RSignature.mk c20.params c20.lent c20.result)] 56) fun l21 =>
   impl_imageSigs_L1 p0 n (Sh.w (t9 + 1)) l21
  else
   some l10
def impl_imageSigs (N : Nat) (p0 : RImage) : Option (RSignatures × Bool) :=
 if (decide (4 < (Sh.len p0.procs))) = true then
  some ((RSignatures.mk [] []), false)
 else
  Option.bind (impl_imageSigs_L1 p0 N 0 []) fun l11 =>
  Option.bind (impl_validSigs N p0.decls l11) fun q14 =>
  some ((RSignatures.mk p0.decls l11), q14)
def impl_setsRegister (p0 : Int) : Option (Bool) :=
 Option.bind (
  if (decide (0 ≤ p0)) = true then
   if (decide (p0 ≤ 11)) = true then
    some true
   else
   if (decide (p0 = 18)) = true then
    some true
   else
    some (decide (p0 = 19))
  else
  if (decide (p0 = 18)) = true then
   some true
  else
   some (decide (p0 = 19))
 ) fun t3 =>
 some t3
def impl_signatures_instrValid_1 (s0_0 : Int) (s1_0 : (List Int)) (s1_1 : (List Int)) (s1_2 : Int) (s1_3 : Int) (s1_4 : (List RInstr)) (p0 : Int) : Option (Bool) :=
 Option.bind (
  if (decide (s0_0 < p0)) = true then
   some (decide (p0 < (Sh.len s1_4)))
  else
   some false
 ) fun t3 =>
 some t3
def impl_signatures_instrValid_2 (s1_0 : Int) (s2_0 : (List Int)) (s2_1 : (List Int)) (s2_2 : Int) (s2_3 : Int) (s2_4 : (List RInstr)) (p0 : Int) : Option (Bool) :=
 Option.bind (impl_signatures_instrValid_1 s1_0 s2_0 s2_1 s2_2 s2_3 s2_4 p0) fun q3 =>
 some (!q3)
def slices_IndexFunc_int_int_L1 (s1_0 : Int) (s2_0 : (List Int)) (s2_1 : (List Int)) (s2_2 : Int) (s2_3 : Int) (s2_4 : (List RInstr)) (p0 : (List Int)) : Nat → Int → Option ((Int) ⊕ (Unit))
 | 0, _ => none
 | n + 1, t4 =>
  if (decide (t4 < (Sh.len p0))) = true then
   Option.bind (Sh.get p0 t4) fun c13 =>
   Option.bind (impl_signatures_instrValid_2 s1_0 s2_0 s2_1 s2_2 s2_3 s2_4 c13) fun q14 =>
   if q14 = true then
    some (Sum.inl t4)
   else
    slices_IndexFunc_int_int_L1 s1_0 s2_0 s2_1 s2_2 s2_3 s2_4 p0 n (Sh.w (t4 + 1))
  else
   some (Sum.inr ())
def slices_IndexFunc_int_int (N : Nat) (s1_0 : Int) (s2_0 : (List Int)) (s2_1 : (List Int)) (s2_2 : Int) (s2_3 : Int) (s2_4 : (List RInstr)) (p0 : (List Int)) : Option (Int) :=
 Sh.cont (slices_IndexFunc_int_int_L1 s1_0 s2_0 s2_1 s2_2 s2_3 s2_4 p0 N 0) (id) fun () =>
 some (-1)
def slices_ContainsFunc_int_int (N : Nat) (s1_0 : Int) (s2_0 : (List Int)) (s2_1 : (List Int)) (s2_2 : Int) (s2_3 : Int) (s2_4 : (List RInstr)) (p0 : (List Int)) : Option (Bool) :=
 Option.bind (slices_IndexFunc_int_int N s1_0 s2_0 s2_1 s2_2 s2_3 s2_4 p0) fun q3 =>
 some (decide (0 ≤ q3))
def impl_conCount_L1 (p0 : (List RDecl)) : Nat → Int → Int → Option (Int)
 | 0, _, _ => none
 | n + 1, n5, t6 =>
  if (decide (t6 < (Sh.len p0))) = true then
   Option.bind (Sh.get p0 t6) fun c15 =>
   impl_conCount_L1 p0 n (Sh.w (n5 + (Sh.len c15.cons))) (Sh.w (t6 + 1))
  else
   some n5
def impl_conCount (N : Nat) (p0 : (List RDecl)) : Option (Int) :=
 Option.bind (impl_conCount_L1 p0 N 0 0) fun n7 =>
 some n7
def impl_consOf_L1 (c14 : RDecl) (q10 : Int) : Nat → Int → (List Int) → Option ((List Int))
 | 0, _, _ => none
 | n + 1, t15, l16 =>
  if (decide (t15 < (Sh.len c14.cons))) = true then
   Option.bind (Sh.app l16 [Sh.w (q10 + t15)] 8) fun l25 =>
   impl_consOf_L1 c14 q10 n (Sh.w (t15 + 1)) l25
  else
   some l16
def impl_consOf (N : Nat) (p0 : (List RDecl)) (p1 : Int) : Option ((List Int)) :=
 Option.bind (
  if (decide (p1 < 1)) = true then
   some true
  else
   some (decide ((Sh.len p0) < p1))
 ) fun t4 =>
 if t4 = true then
  some []
 else
  Option.bind (Sh.sl p0 0 (Sh.w (p1 - 1))) fun l9 =>
  Option.bind (impl_conCount N l9) fun q10 =>
  Option.bind (Sh.get p0 (Sh.w (p1 - 1))) fun c14 =>
  Option.bind (impl_consOf_L1 c14 q10 N 0 []) fun l17 =>
  some l17
def impl_signatures_numValid (N : Nat) (s0_0 : Int) (s1_0 : (List Int)) (s1_1 : (List Int)) (s1_2 : Int) (s1_3 : Int) (s1_4 : (List RInstr)) (p0 : RSignatures) (p1 : RInstr) : Option (Bool) :=
 if (decide (p1.op = 0)) = true then
  Option.bind (
   if (decide ((-999) ≤ p1.num)) = true then
    some (decide (p1.num ≤ 999))
   else
    some false
  ) fun t7 =>
  some t7
 else
 if (decide (p1.op = 6)) = true then
  Option.bind (
   if (decide (0 ≤ p1.num)) = true then
    Option.bind (impl_conCount N p0.decls) fun q16 =>
    some (decide (p1.num < q16))
   else
    some false
  ) fun t13 =>
  some t13
 else
  Option.bind (
   if (decide (p1.op = 9)) = true then
    some true
   else
    some (decide (p1.op = 24))
  ) fun t18 =>
  if t18 = true then
   Option.bind (
    if (decide (0 ≤ p1.num)) = true then
     some (decide (p1.num < (Sh.len p0.funcs)))
    else
     some false
   ) fun t22 =>
   some t22
  else
  if (decide (p1.op = 10)) = true then
   Option.bind (
    if (decide (0 ≤ p1.num)) = true then
     if (decide (p1.num < (Sh.len p0.funcs))) = true then
      Option.bind (Sh.get p0.funcs p1.num) fun c32 =>
      some (decide ((Sh.len c32.lent) = 0))
     else
      some false
    else
     some false
   ) fun t28 =>
   some t28
  else
  if (decide (p1.op = 19)) = true then
   Option.bind (
    if (decide (0 ≤ p1.num)) = true then
     some (decide (p1.num < 3))
    else
     some false
   ) fun t36 =>
   some t36
  else
   Option.bind (
    if (decide (p1.op = 20)) = true then
     some true
    else
     some (decide (p1.op = 22))
   ) fun t40 =>
   if t40 = true then
    Option.bind (impl_signatures_instrValid_1 s0_0 s1_0 s1_1 s1_2 s1_3 s1_4 p1.num) fun q44 =>
    some q44
   else
   if (decide (p1.op = 21)) = true then
    Option.bind (impl_consOf N p0.decls p1.num) fun q48 =>
    Option.bind (
     if (decide (0 < (Sh.len q48))) = true then
      some (decide ((Sh.len p1.jumps) = (Sh.len q48)))
     else
      some false
    ) fun t50 =>
    some t50
   else
    some (decide (p1.num = 0))
def impl_conAt_L1 (p0 : (List RDecl)) : Nat → Int → Int → Option ((Int × RCon) ⊕ (Unit))
 | 0, _, _ => none
 | n + 1, c4, t5 =>
  if (decide (t5 < (Sh.len p0))) = true then
   Option.bind (Sh.get p0 t5) fun c13 =>
   Option.bind (
    if (decide (0 ≤ c4)) = true then
     some (decide (c4 < (Sh.len c13.cons)))
    else
     some false
   ) fun t16 =>
   if t16 = true then
    Option.bind (Sh.get c13.cons c4) fun c20 =>
    some (Sum.inl (Sh.w (t5 + 1), c20))
   else
    impl_conAt_L1 p0 n (Sh.w (c4 - (Sh.len c13.cons))) (Sh.w (t5 + 1))
  else
   some (Sum.inr ())
def impl_conAt (N : Nat) (p0 : (List RDecl)) (p1 : Int) : Option (Int × RCon) :=
 Sh.cont (impl_conAt_L1 p0 N p1 0) (id) fun () =>
 some (-1, (RCon.mk []))
def impl_fieldsOf (N : Nat) (p0 : (List RDecl)) (p1 : Int) : Option ((List Int)) :=
 Option.bind (impl_conAt N p0 p1) fun q3 =>
 some q3.2.fields
def impl_signatures_argsOf (N : Nat) (p0 : RSignatures) (p1 : RInstr) : Option (Int × Int) :=
 Sh.cont (
  Option.bind (
   if (decide (p1.op = 0)) = true then
    some true
   else
    some (decide (p1.op = 22))
  ) fun t9 =>
  if t9 = true then
   some (Sum.inr 0)
  else
   Option.bind (
    if (decide (p1.op = 1)) = true then
     some true
    else
    if (decide (p1.op = 2)) = true then
     some true
    else
    if (decide (p1.op = 3)) = true then
     some true
    else
    if (decide (p1.op = 4)) = true then
     some true
    else
     some (decide (p1.op = 11))
   ) fun t13 =>
   if t13 = true then
    some (Sum.inr 2)
   else
   if (decide (p1.op = 6)) = true then
    Option.bind (impl_fieldsOf N p0.decls p1.num) fun q18 =>
    some (Sum.inr (Sh.len q18))
   else
    Option.bind (
     if (decide (p1.op = 9)) = true then
      some true
     else
      some (decide (p1.op = 24))
    ) fun t20 =>
    if t20 = true then
     Option.bind (Sh.get p0.funcs p1.num) fun c23 =>
     some (Sum.inr (Sh.len c23.params))
    else
    if (decide (p1.op = 10)) = true then
     Option.bind (Sh.get p0.funcs p1.num) fun c26 =>
     some (Sum.inr (Sh.w ((Sh.len c26.params) - 1)))
    else
     Option.bind (
      if (decide (p1.op = 16)) = true then
       some true
      else
       some (decide (p1.op = 17))
     ) fun t28 =>
     if t28 = true then
      some (Sum.inl (1, 4))
     else
      some (Sum.inr 1)
 ) (id) fun n4 =>
 some (n4, n4)
def impl_signatures_instrValid_L1 (p1 : RProc) (p3 : RInstr) : Nat → Int → Option ((Bool) ⊕ (Unit))
 | 0, _ => none
 | n + 1, t16 =>
  if (decide (t16 < (Sh.len p3.args))) = true then
   Option.bind (Sh.get p3.args t16) fun c47 =>
   Option.bind (
    if (decide (c47 < 0)) = true then
     some true
    else
     some (decide (p1.regs ≤ c47))
   ) fun t49 =>
   if t49 = true then
    some (Sum.inl false)
   else
    impl_signatures_instrValid_L1 p1 p3 n (Sh.w (t16 + 1))
  else
   some (Sum.inr ())
def impl_signatures_instrValid (N : Nat) (p0 : RSignatures) (p1 : RProc) (p2 : Int) (p3 : RInstr) : Option (Bool) :=
 Option.bind (
  if (decide (p3.op < 0)) = true then
   some true
  else
  if (decide (24 < p3.op)) = true then
   some true
  else
  if (decide (p3.op = 7)) = true then
   some true
  else
  if (decide (p3.op = 8)) = true then
   some true
  else
  if (decide (p3.op = 12)) = true then
   some true
  else
   some (decide (p3.op = 13))
 ) fun t4 =>
 if t4 = true then
  some false
 else
  Option.bind (
   if (decide (p3.dst < 0)) = true then
    some true
   else
   if (decide (p1.regs ≤ p3.dst)) = true then
    some true
   else
   if (!decide (p3.dst = 0)) = true then
    Option.bind (impl_setsRegister p3.op) fun q57 =>
    if (!q57) = true then
     some true
    else
    if (decide (p3.into < 0)) = true then
     some true
    else
    if (decide (p1.regs < p3.into)) = true then
     some true
    else
    if (!decide (p3.into = 0)) = true then
     some (!decide (p3.op = 6))
    else
     some false
   else
   if (decide (p3.into < 0)) = true then
    some true
   else
   if (decide (p1.regs < p3.into)) = true then
    some true
   else
   if (!decide (p3.into = 0)) = true then
    some (!decide (p3.op = 6))
   else
    some false
  ) fun t10 =>
  if t10 = true then
   some false
  else
   Sh.cont (impl_signatures_instrValid_L1 p1 p3 N 0) (id) fun () =>
   Option.bind (
    if (decide (0 < (Sh.len p3.jumps))) = true then
     if (!decide (p3.op = 21)) = true then
      some true
     else
      Option.bind (slices_ContainsFunc_int_int N p2 p1.params p1.lent p1.result p1.regs p1.code p3.jumps) fun q40 =>
      some q40
    else
     Option.bind (slices_ContainsFunc_int_int N p2 p1.params p1.lent p1.result p1.regs p1.code p3.jumps) fun q41 =>
     some q41
   ) fun t21 =>
   if t21 = true then
    some false
   else
    Option.bind (impl_signatures_numValid N p2 p1.params p1.lent p1.result p1.regs p1.code p0 p3) fun q27 =>
    if (!q27) = true then
     some false
    else
     Option.bind (impl_signatures_argsOf N p0 p3) fun q33 =>
     Option.bind (
      if (decide (q33.1 ≤ (Sh.len p3.args))) = true then
       some (decide ((Sh.len p3.args) ≤ q33.2))
      else
       some false
     ) fun t35 =>
     some t35
def impl_ValidImage_L2 (N : Nat) (c20 : RProc) (q3 : RSignatures × Bool) : Nat → Int → Option ((Bool) ⊕ (Unit))
 | 0, _ => none
 | n + 1, t36 =>
  if (decide (t36 < (Sh.len c20.code))) = true then
   Option.bind (Sh.get c20.code t36) fun c43 =>
   Option.bind (impl_signatures_instrValid N q3.1 c20 t36 c43) fun q45 =>
   if (!q45) = true then
    some (Sum.inl false)
   else
    impl_ValidImage_L2 N c20 q3 n (Sh.w (t36 + 1))
  else
   some (Sum.inr ())
def impl_ValidImage_L1 (N : Nat) (p0 : RImage) (q3 : RSignatures × Bool) : Nat → Int → Option ((Bool) ⊕ (Unit))
 | 0, _ => none
 | n + 1, t12 =>
  if (decide (t12 < (Sh.len p0.procs))) = true then
   Option.bind (Sh.get p0.procs t12) fun c20 =>
   Option.bind (
    if (decide (c20.regs < (if (Sh.len c20.params) > 1 then (Sh.len c20.params) else 1))) = true then
     some true
    else
    if (decide (2000 < c20.regs)) = true then
     some true
    else
    if (decide ((Sh.len c20.code) < 1)) = true then
     some true
    else
     some (decide (2000 < (Sh.len c20.code)))
   ) fun t23 =>
   if t23 = true then
    some (Sum.inl false)
   else
    Option.bind (Sh.get c20.code (Sh.w ((Sh.len c20.code) - 1))) fun c29 =>
    Option.bind (
     if (!decide (c29.op = 23)) = true then
      some (!decide (c29.op = 24))
     else
      some false
    ) fun t31 =>
    if t31 = true then
     some (Sum.inl false)
    else
     Sh.cont (impl_ValidImage_L2 N c20 q3 N 0) (fun x => Sum.inl x) fun () =>
     impl_ValidImage_L1 N p0 q3 n (Sh.w (t12 + 1))
  else
   some (Sum.inr ())
def impl_ValidImage (N : Nat) (p0 : RImage) : Option (Bool) :=
 Option.bind (impl_imageSigs N p0) fun q3 =>
 if (!q3.2) = true then
  some false
 else
  Sh.cont (impl_ValidImage_L1 N p0 q3 N 0) (id) fun () =>
  some true
def laws_eqCon (N : Nat) (p0 : RCon) (p1 : RCon) : Option (Bool) :=
 Option.bind (laws_eqIntS N p0.fields p1.fields) fun q4 =>
 if (!q4) = true then
  some false
 else
  some true
def laws_eqConS_L1 (N : Nat) (p0 : (List RCon)) (p1 : (List RCon)) : Nat → Int → Option ((Bool) ⊕ (Unit))
 | 0, _ => none
 | n + 1, i10 =>
  if (decide (i10 < (Sh.len p0))) = true then
   Option.bind (Sh.get p0 i10) fun c18 =>
   Option.bind (Sh.get p1 i10) fun c19 =>
   Option.bind (laws_eqCon N c18 c19) fun q20 =>
   if (!q20) = true then
    some (Sum.inl false)
   else
    laws_eqConS_L1 N p0 p1 n (Sh.w (i10 + 1))
  else
   some (Sum.inr ())
def laws_eqConS (N : Nat) (p0 : (List RCon)) (p1 : (List RCon)) : Option (Bool) :=
 if (!decide ((Sh.len p0) = (Sh.len p1))) = true then
  some false
 else
  Sh.cont (laws_eqConS_L1 N p0 p1 N 0) (id) fun () =>
  some true
def laws_eqDecl (N : Nat) (p0 : RDecl) (p1 : RDecl) : Option (Bool) :=
 if (!decide (p0.from_ = p1.from_)) = true then
  some false
 else
 if (!decide (p0.to = p1.to)) = true then
  some false
 else
  Option.bind (laws_eqConS N p0.cons p1.cons) fun q16 =>
  if (!q16) = true then
   some false
  else
   some true
def laws_eqDeclS_L1 (N : Nat) (p0 : (List RDecl)) (p1 : (List RDecl)) : Nat → Int → Option ((Bool) ⊕ (Unit))
 | 0, _ => none
 | n + 1, i10 =>
  if (decide (i10 < (Sh.len p0))) = true then
   Option.bind (Sh.get p0 i10) fun c18 =>
   Option.bind (Sh.get p1 i10) fun c19 =>
   Option.bind (laws_eqDecl N c18 c19) fun q20 =>
   if (!q20) = true then
    some (Sum.inl false)
   else
    laws_eqDeclS_L1 N p0 p1 n (Sh.w (i10 + 1))
  else
   some (Sum.inr ())
def laws_eqDeclS (N : Nat) (p0 : (List RDecl)) (p1 : (List RDecl)) : Option (Bool) :=
 if (!decide ((Sh.len p0) = (Sh.len p1))) = true then
  some false
 else
  Sh.cont (laws_eqDeclS_L1 N p0 p1 N 0) (id) fun () =>
  some true
def laws_eqInstr (N : Nat) (p0 : RInstr) (p1 : RInstr) : Option (Bool) :=
 if (!decide (p0.op = p1.op)) = true then
  some false
 else
 if (!decide (p0.dst = p1.dst)) = true then
  some false
 else
 if (!decide (p0.num = p1.num)) = true then
  some false
 else
 if (!decide (p0.into = p1.into)) = true then
  some false
 else
  Option.bind (laws_eqIntS N p0.args p1.args) fun q28 =>
  if (!q28) = true then
   some false
  else
   Option.bind (laws_eqIntS N p0.jumps p1.jumps) fun q35 =>
   if (!q35) = true then
    some false
   else
    some true
def laws_eqInstrS_L1 (N : Nat) (p0 : (List RInstr)) (p1 : (List RInstr)) : Nat → Int → Option ((Bool) ⊕ (Unit))
 | 0, _ => none
 | n + 1, i10 =>
  if (decide (i10 < (Sh.len p0))) = true then
   Option.bind (Sh.get p0 i10) fun c18 =>
   Option.bind (Sh.get p1 i10) fun c19 =>
   Option.bind (laws_eqInstr N c18 c19) fun q20 =>
   if (!q20) = true then
    some (Sum.inl false)
   else
    laws_eqInstrS_L1 N p0 p1 n (Sh.w (i10 + 1))
  else
   some (Sum.inr ())
def laws_eqInstrS (N : Nat) (p0 : (List RInstr)) (p1 : (List RInstr)) : Option (Bool) :=
 if (!decide ((Sh.len p0) = (Sh.len p1))) = true then
  some false
 else
  Sh.cont (laws_eqInstrS_L1 N p0 p1 N 0) (id) fun () =>
  some true
def laws_eqProc (N : Nat) (p0 : RProc) (p1 : RProc) : Option (Bool) :=
 Option.bind (laws_eqIntS N p0.params p1.params) fun q4 =>
 if (!q4) = true then
  some false
 else
  Option.bind (laws_eqIntS N p0.lent p1.lent) fun q11 =>
  if (!q11) = true then
   some false
  else
  if (!decide (p0.result = p1.result)) = true then
   some false
  else
  if (!decide (p0.regs = p1.regs)) = true then
   some false
  else
   Option.bind (laws_eqInstrS N p0.code p1.code) fun q30 =>
   if (!q30) = true then
    some false
   else
    some true
def laws_eqProcS_L1 (N : Nat) (p0 : (List RProc)) (p1 : (List RProc)) : Nat → Int → Option ((Bool) ⊕ (Unit))
 | 0, _ => none
 | n + 1, i10 =>
  if (decide (i10 < (Sh.len p0))) = true then
   Option.bind (Sh.get p0 i10) fun c18 =>
   Option.bind (Sh.get p1 i10) fun c19 =>
   Option.bind (laws_eqProc N c18 c19) fun q20 =>
   if (!q20) = true then
    some (Sum.inl false)
   else
    laws_eqProcS_L1 N p0 p1 n (Sh.w (i10 + 1))
  else
   some (Sum.inr ())
def laws_eqProcS (N : Nat) (p0 : (List RProc)) (p1 : (List RProc)) : Option (Bool) :=
 if (!decide ((Sh.len p0) = (Sh.len p1))) = true then
  some false
 else
  Sh.cont (laws_eqProcS_L1 N p0 p1 N 0) (id) fun () =>
  some true
def laws_eqImage (N : Nat) (p0 : RImage) (p1 : RImage) : Option (Bool) :=
 Option.bind (laws_eqDeclS N p0.decls p1.decls) fun q4 =>
 if (!q4) = true then
  some false
 else
  Option.bind (laws_eqProcS N p0.procs p1.procs) fun q11 =>
  if (!q11) = true then
   some false
  else
   some true
end RC


namespace RC
def spec_allInRange_L1 (p0 : (List Int)) : Nat → Int → Option ((Bool) ⊕ (Unit))
 | 0, _ => none
 | n + 1, i4 =>
  if (decide (i4 < (Sh.len p0))) = true then
   Option.bind (Sh.get p0 i4) fun c12 =>
   Option.bind (spec_inRange c12 (-999) 999) fun q13 =>
   if (!q13) = true then
    some (Sum.inl false)
   else
    spec_allInRange_L1 p0 n (Sh.w (i4 + 1))
  else
   some (Sum.inr ())
def laws_eqFrame (N : Nat) (p0 : RFrame) (p1 : RFrame) : Option (Bool) :=
 if (!decide (p0.proc = p1.proc)) = true then
  some false
 else
 if (!decide (p0.at_ = p1.at_)) = true then
  some false
 else
 if (!decide (p0.dst = p1.dst)) = true then
  some false
 else
  Option.bind (laws_eqIntS N p0.regs p1.regs) fun q22 =>
  if (!q22) = true then
   some false
  else
   Option.bind (laws_eqIntS N p0.own p1.own) fun q29 =>
   if (!q29) = true then
    some false
   else
    Option.bind (laws_eqIntS N p0.held p1.held) fun q36 =>
    if (!q36) = true then
     some false
    else
     some true
def laws_eqFrameS_L1 (N : Nat) (p0 : (List RFrame)) (p1 : (List RFrame)) : Nat → Int → Option ((Bool) ⊕ (Unit))
 | 0, _ => none
 | n + 1, i10 =>
  if (decide (i10 < (Sh.len p0))) = true then
   Option.bind (Sh.get p0 i10) fun c18 =>
   Option.bind (Sh.get p1 i10) fun c19 =>
   Option.bind (laws_eqFrame N c18 c19) fun q20 =>
   if (!q20) = true then
    some (Sum.inl false)
   else
    laws_eqFrameS_L1 N p0 p1 n (Sh.w (i10 + 1))
  else
   some (Sum.inr ())
def laws_eqFrameS (N : Nat) (p0 : (List RFrame)) (p1 : (List RFrame)) : Option (Bool) :=
 if (!decide ((Sh.len p0) = (Sh.len p1))) = true then
  some false
 else
  Sh.cont (laws_eqFrameS_L1 N p0 p1 N 0) (id) fun () =>
  some true
def laws_eqState (N : Nat) (p0 : RState) (p1 : RState) : Option (Bool) :=
 if (!decide (p0.status = p1.status)) = true then
  some false
 else
 if (!decide (p0.value = p1.value)) = true then
  some false
 else
 if (!decide (p0.calls = p1.calls)) = true then
  some false
 else
 if (!decide (p0.most = p1.most)) = true then
  some false
 else
  Option.bind (laws_eqIntS N p0.out p1.out) fun q28 =>
  if (!q28) = true then
   some false
  else
   Option.bind (laws_eqCellS N p0.heap p1.heap) fun q35 =>
   if (!q35) = true then
    some false
   else
    Option.bind (laws_eqFrameS N p0.frames p1.frames) fun q42 =>
    if (!q42) = true then
     some false
    else
     some true
end RC


namespace RC
def spec_zeros (p0 : Int) : Option ((List Int)) :=
 Option.bind (Sh.mk 0 p0 8) fun l3 =>
 some l3
end RC


namespace RC
def laws_markIntS_L1  : Nat → Int → Int → (List Int) → Option (Int × (List Int))
 | 0, _, _, _ => none
 | n + 1, k4, i5, l6 =>
  if (decide (i5 < (Sh.len l6))) = true then
   Option.bind (Sh.get l6 i5) fun c16 =>
   laws_markIntS_L1  n (Sh.w (k4 + 1)) (Sh.w (i5 + 1)) (Sh.put l6 i5 k4)
  else
   some (k4, l6)
def laws_markIntS (N : Nat) (s0 : (List Int)) (p1 : Int) : Option (Int × (List Int)) :=
 Option.bind (laws_markIntS_L1  N p1 0 s0) fun (k7, l8) =>
 some (k7, l8)
def laws_markCellS_L1 (N : Nat) : Nat → Int → Int → (List Cell) → Option (Int × (List Cell))
 | 0, _, _, _ => none
 | n + 1, k4, i5, l6 =>
  if (decide (i5 < (Sh.len l6))) = true then
   Option.bind (Sh.get l6 i5) fun c16 =>
   Option.bind (Sh.get (Sh.put l6 i5 (Cell.mk k4 c16.tag c16.fields)) i5) fun c19 =>
   Option.bind (Sh.get (Sh.put (Sh.put l6 i5 (Cell.mk k4 c16.tag c16.fields)) i5 (Cell.mk c19.count (Sh.w (k4 + 1)) c19.fields)) i5) fun c21 =>
   Option.bind (laws_markIntS N c21.fields (Sh.w ((Sh.w (k4 + 1)) + 1))) fun q22 =>
   laws_markCellS_L1 N n q22.1 (Sh.w (i5 + 1)) (Sh.put (Sh.put (Sh.put l6 i5 (Cell.mk k4 c16.tag c16.fields)) i5 (Cell.mk c19.count (Sh.w (k4 + 1)) c19.fields)) i5 (Cell.mk c21.count c21.tag q22.2))
  else
   some (k4, l6)
def laws_markCellS (N : Nat) (s0 : (List Cell)) (p1 : Int) : Option (Int × (List Cell)) :=
 Option.bind (laws_markCellS_L1 N N p1 0 s0) fun (k7, l8) =>
 some (k7, l8)
def laws_heldIntS_L1 (p0 : (List Int)) : Nat → Int → Int → Option ((Int) ⊕ (Int))
 | 0, _, _ => none
 | n + 1, k4, i5 =>
  if (decide (i5 < (Sh.len p0))) = true then
   Option.bind (Sh.get p0 i5) fun c15 =>
   if (!decide (c15 = k4)) = true then
    some (Sum.inl (-1))
   else
    laws_heldIntS_L1 p0 n (Sh.w (k4 + 1)) (Sh.w (i5 + 1))
  else
   some (Sum.inr k4)
def laws_heldIntS (N : Nat) (p0 : (List Int)) (p1 : Int) : Option (Int) :=
 Sh.cont (laws_heldIntS_L1 p0 N p1 0) (id) fun k6 =>
 some k6
end RC


namespace RC
def laws_markConS_L1 (N : Nat) : Nat → Int → Int → (List RCon) → Option (Int × (List RCon))
 | 0, _, _, _ => none
 | n + 1, k4, i5, l6 =>
  if (decide (i5 < (Sh.len l6))) = true then
   Option.bind (Sh.get l6 i5) fun c15 =>
   Option.bind (laws_markIntS N c15.fields k4) fun q16 =>
   laws_markConS_L1 N n q16.1 (Sh.w (i5 + 1)) (Sh.put l6 i5 (RCon.mk q16.2))
  else
   some (k4, l6)
def laws_markConS (N : Nat) (s0 : (List RCon)) (p1 : Int) : Option (Int × (List RCon)) :=
 Option.bind (laws_markConS_L1 N N p1 0 s0) fun (k7, l8) =>
 some (k7, l8)
def laws_markDeclS_L1 (N : Nat) : Nat → Int → Int → (List RDecl) → Option (Int × (List RDecl))
 | 0, _, _, _ => none
 | n + 1, k4, i5, l6 =>
  if (decide (i5 < (Sh.len l6))) = true then
   Option.bind (Sh.get l6 i5) fun c16 =>
   Option.bind (Sh.get (Sh.put l6 i5 (RDecl.mk k4 c16.to c16.cons)) i5) fun c19 =>
   Option.bind (Sh.get (Sh.put (Sh.put l6 i5 (RDecl.mk k4 c16.to c16.cons)) i5 (RDecl.mk c19.from_ (Sh.w (k4 + 1)) c19.cons)) i5) fun c21 =>
   Option.bind (laws_markConS N c21.cons (Sh.w ((Sh.w (k4 + 1)) + 1))) fun q22 =>
   laws_markDeclS_L1 N n q22.1 (Sh.w (i5 + 1)) (Sh.put (Sh.put (Sh.put l6 i5 (RDecl.mk k4 c16.to c16.cons)) i5 (RDecl.mk c19.from_ (Sh.w (k4 + 1)) c19.cons)) i5 (RDecl.mk c21.from_ c21.to q22.2))
  else
   some (k4, l6)
def laws_markDeclS (N : Nat) (s0 : (List RDecl)) (p1 : Int) : Option (Int × (List RDecl)) :=
 Option.bind (laws_markDeclS_L1 N N p1 0 s0) fun (k7, l8) =>
 some (k7, l8)
def laws_markInstrS_L1 (N : Nat) : Nat → Int → Int → (List RInstr) → Option (Int × (List RInstr))
 | 0, _, _, _ => none
 | n + 1, k4, i5, l6 =>
  if (decide (i5 < (Sh.len l6))) = true then
   Option.bind (Sh.get l6 i5) fun c16 =>
   Option.bind (Sh.get (Sh.put l6 i5 (RInstr.mk k4 c16.dst c16.num c16.into c16.args c16.jumps)) i5) fun c19 =>
   Option.bind (Sh.get (Sh.put (Sh.put l6 i5 (RInstr.mk k4 c16.dst c16.num c16.into c16.args c16.jumps)) i5 (RInstr.mk c19.op (Sh.w (k4 + 1)) c19.num c19.into c19.args c19.jumps)) i5) fun c22 =>
   Option.bind (Sh.get (Sh.put (Sh.put (Sh.put l6 i5 (RInstr.mk k4 c16.dst c16.num c16.into c16.args c16.jumps)) i5 (RInstr.mk c19.op (Sh.w (k4 + 1)) c19.num c19.into c19.args c19.jumps)) i5 (RInstr.mk c22.op c22.dst (Sh.w ((Sh.w (k4 + 1)) + 1)) c22.into c22.args c22.jumps)) i5) fun c25 =>
   Option.bind (Sh.get (Sh.put (Sh.put (Sh.put (Sh.put l6 i5 (RInstr.mk k4 c16.dst c16.num c16.into c16.args c16.jumps)) i5 (RInstr.mk c19.op (Sh.w (k4 + 1)) c19.num c19.into c19.args c19.jumps)) i5 (RInstr.mk c22.op c22.dst (Sh.w ((Sh.w (k4 + 1)) + 1)) c22.into c22.args c22.jumps)) i5 (RInstr.mk c25.op c25.dst c25.num (Sh.w ((Sh.w ((Sh.w (k4 + 1)) + 1)) + 1)) c25.args c25.jumps)) i5) fun c28 =>
   Option.bind (laws_markIntS N c28.args (Sh.w ((Sh.w ((Sh.w ((Sh.w (k4 + 1)) + 1)) + 1)) + 1))) fun q29 =>
   Option.bind (Sh.get (Sh.put (Sh.put (Sh.put (Sh.put (Sh.put l6 i5 (RInstr.mk k4 c16.dst c16.num c16.into c16.args c16.jumps)) i5 (RInstr.mk c19.op (Sh.w (k4 + 1)) c19.num c19.into c19.args c19.jumps)) i5 (RInstr.mk c22.op c22.dst (Sh.w ((Sh.w (k4 + 1)) + 1)) c22.into c22.args c22.jumps)) i5 (RInstr.mk c25.op c25.dst c25.num (Sh.w ((Sh.w ((Sh.w (k4 + 1)) + 1)) + 1)) c25.args c25.jumps)) i5 (RInstr.mk c28.op c28.dst c28.num c28.into q29.2 c28.jumps)) i5) fun c31 =>
   Option.bind (laws_markIntS N c31.jumps q29.1) fun q32 =>
   laws_markInstrS_L1 N n q32.1 (Sh.w (i5 + 1)) (Sh.put (Sh.put (Sh.put (Sh.put (Sh.put (Sh.put l6 i5 (RInstr.mk k4 c16.dst c16.num c16.into c16.args c16.jumps)) i5 (RInstr.mk c19.op (Sh.w (k4 + 1)) c19.num c19.into c19.args c19.jumps)) i5 (RInstr.mk c22.op c22.dst (Sh.w ((Sh.w (k4 + 1)) + 1)) c22.into c22.args c22.jumps)) i5 (RInstr.mk c25.op c25.dst c25.num (Sh.w ((Sh.w ((Sh.w (k4 + 1)) + 1)) + 1)) c25.args c25.jumps)) i5 (RInstr.mk c28.op c28.dst c28.num c28.into q29.2 c28.jumps)) i5 (RInstr.mk c31.op c31.dst c31.num c31.into c31.args q32.2))
  else
   some (k4, l6)
def laws_markInstrS (N : Nat) (s0 : (List RInstr)) (p1 : Int) : Option (Int × (List RInstr)) :=
 Option.bind (laws_markInstrS_L1 N N p1 0 s0) fun (k7, l8) =>
 some (k7, l8)
def laws_markProcS_L1 (N : Nat) : Nat → Int → Int → (List RProc) → Option (Int × (List RProc))
 | 0, _, _, _ => none
 | n + 1, k4, i5, l6 =>
  if (decide (i5 < (Sh.len l6))) = true then
   Option.bind (Sh.get l6 i5) fun c16 =>
   Option.bind (laws_markIntS N c16.params k4) fun q17 =>
   Option.bind (Sh.get (Sh.put l6 i5 (RProc.mk q17.2 c16.lent c16.result c16.regs c16.code)) i5) fun c20 =>
   Option.bind (laws_markIntS N c20.lent q17.1) fun q21 =>
   Option.bind (Sh.get (Sh.put (Sh.put l6 i5 (RProc.mk q17.2 c16.lent c16.result c16.regs c16.code)) i5 (RProc.mk c20.params q21.2 c20.result c20.regs c20.code)) i5) fun c24 =>
   Option.bind (Sh.get (Sh.put (Sh.put (Sh.put l6 i5 (RProc.mk q17.2 c16.lent c16.result c16.regs c16.code)) i5 (RProc.mk c20.params q21.2 c20.result c20.regs c20.code)) i5 (RProc.mk c24.params c24.lent q21.1 c24.regs c24.code)) i5) fun c27 =>
   Option.bind (Sh.get (Sh.put (Sh.put (Sh.put (Sh.put l6 i5 (RProc.mk q17.2 c16.lent c16.result c16.regs c16.code)) i5 (RProc.mk c20.params q21.2 c20.result c20.regs c20.code)) i5 (RProc.mk c24.params c24.lent q21.1 c24.regs c24.code)) i5 (RProc.mk c27.params c27.lent c27.result (Sh.w (q21.1 + 1)) c27.code)) i5) fun c29 =>
   Option.bind (laws_markInstrS N c29.code (Sh.w ((Sh.w (q21.1 + 1)) + 1))) fun q30 =>
   laws_markProcS_L1 N n q30.1 (Sh.w (i5 + 1)) (Sh.put (Sh.put (Sh.put (Sh.put (Sh.put l6 i5 (RProc.mk q17.2 c16.lent c16.result c16.regs c16.code)) i5 (RProc.mk c20.params q21.2 c20.result c20.regs c20.code)) i5 (RProc.mk c24.params c24.lent q21.1 c24.regs c24.code)) i5 (RProc.mk c27.params c27.lent c27.result (Sh.w (q21.1 + 1)) c27.code)) i5 (RProc.mk c29.params c29.lent c29.result c29.regs q30.2))
  else
   some (k4, l6)
def laws_markProcS (N : Nat) (s0 : (List RProc)) (p1 : Int) : Option (Int × (List RProc)) :=
 Option.bind (laws_markProcS_L1 N N p1 0 s0) fun (k7, l8) =>
 some (k7, l8)
def laws_markImage (N : Nat) (s0 : (List RDecl)) (s1 : (List RProc)) (p1 : Int) : Option (Int × (List RDecl) × (List RProc)) :=
 Option.bind (laws_markDeclS N s0 p1) fun q3 =>
 Option.bind (laws_markProcS N s1 q3.1) fun q6 =>
 some (q6.1, q3.2, q6.2)
end RC


namespace RC
def laws_markFrameS_L1 (N : Nat) : Nat → Int → Int → (List RFrame) → Option (Int × (List RFrame))
 | 0, _, _, _ => none
 | n + 1, k4, i5, l6 =>
  if (decide (i5 < (Sh.len l6))) = true then
   Option.bind (Sh.get l6 i5) fun c16 =>
   Option.bind (Sh.get (Sh.put l6 i5 (RFrame.mk k4 c16.at_ c16.dst c16.regs c16.own c16.held)) i5) fun c19 =>
   Option.bind (Sh.get (Sh.put (Sh.put l6 i5 (RFrame.mk k4 c16.at_ c16.dst c16.regs c16.own c16.held)) i5 (RFrame.mk c19.proc (Sh.w (k4 + 1)) c19.dst c19.regs c19.own c19.held)) i5) fun c22 =>
   Option.bind (Sh.get (Sh.put (Sh.put (Sh.put l6 i5 (RFrame.mk k4 c16.at_ c16.dst c16.regs c16.own c16.held)) i5 (RFrame.mk c19.proc (Sh.w (k4 + 1)) c19.dst c19.regs c19.own c19.held)) i5 (RFrame.mk c22.proc c22.at_ (Sh.w ((Sh.w (k4 + 1)) + 1)) c22.regs c22.own c22.held)) i5) fun c25 =>
   Option.bind (laws_markIntS N c25.regs (Sh.w ((Sh.w ((Sh.w (k4 + 1)) + 1)) + 1))) fun q26 =>
   Option.bind (Sh.get (Sh.put (Sh.put (Sh.put (Sh.put l6 i5 (RFrame.mk k4 c16.at_ c16.dst c16.regs c16.own c16.held)) i5 (RFrame.mk c19.proc (Sh.w (k4 + 1)) c19.dst c19.regs c19.own c19.held)) i5 (RFrame.mk c22.proc c22.at_ (Sh.w ((Sh.w (k4 + 1)) + 1)) c22.regs c22.own c22.held)) i5 (RFrame.mk c25.proc c25.at_ c25.dst q26.2 c25.own c25.held)) i5) fun c29 =>
   Option.bind (laws_markIntS N c29.own q26.1) fun q30 =>
   Option.bind (Sh.get (Sh.put (Sh.put (Sh.put (Sh.put (Sh.put l6 i5 (RFrame.mk k4 c16.at_ c16.dst c16.regs c16.own c16.held)) i5 (RFrame.mk c19.proc (Sh.w (k4 + 1)) c19.dst c19.regs c19.own c19.held)) i5 (RFrame.mk c22.proc c22.at_ (Sh.w ((Sh.w (k4 + 1)) + 1)) c22.regs c22.own c22.held)) i5 (RFrame.mk c25.proc c25.at_ c25.dst q26.2 c25.own c25.held)) i5 (RFrame.mk c29.proc c29.at_ c29.dst c29.regs q30.2 c29.held)) i5) fun c32 =>
   Option.bind (laws_markIntS N c32.held q30.1) fun q33 =>
   laws_markFrameS_L1 N n q33.1 (Sh.w (i5 + 1)) (Sh.put (Sh.put (Sh.put (Sh.put (Sh.put (Sh.put l6 i5 (RFrame.mk k4 c16.at_ c16.dst c16.regs c16.own c16.held)) i5 (RFrame.mk c19.proc (Sh.w (k4 + 1)) c19.dst c19.regs c19.own c19.held)) i5 (RFrame.mk c22.proc c22.at_ (Sh.w ((Sh.w (k4 + 1)) + 1)) c22.regs c22.own c22.held)) i5 (RFrame.mk c25.proc c25.at_ c25.dst q26.2 c25.own c25.held)) i5 (RFrame.mk c29.proc c29.at_ c29.dst c29.regs q30.2 c29.held)) i5 (RFrame.mk c32.proc c32.at_ c32.dst c32.regs c32.own q33.2))
  else
   some (k4, l6)
def laws_markFrameS (N : Nat) (s0 : (List RFrame)) (p1 : Int) : Option (Int × (List RFrame)) :=
 Option.bind (laws_markFrameS_L1 N N p1 0 s0) fun (k7, l8) =>
 some (k7, l8)
def laws_markState (N : Nat) (s0 : (List Int)) (s1 : (List Cell)) (s2 : (List RFrame)) (p0_0 : Int) (p0_1 : Int) (p0_2 : Int) (p0_3 : Int) (p1 : Int) : Option (Int × (List Int) × (List Cell) × (List RFrame)) :=
 Option.bind (laws_markIntS N s0 p1) fun q3 =>
 Option.bind (laws_markCellS N s1 q3.1) fun q6 =>
 Option.bind (laws_markFrameS N s2 q6.1) fun q9 =>
 some (q9.1, q3.2, q6.2, q9.2)
end RC


namespace RC
def spec_frameOf (p0 : RImage) (p1 : Int) (p2 : Int) (p3 : (List Int)) (p4 : (List Int)) : Option (RFrame) :=
 Option.bind (Sh.get p0.procs p1) fun c3 =>
 Option.bind (spec_zeros c3.regs) fun q5 =>
 Option.bind (spec_zeros c3.regs) fun q7 =>
 Option.bind (spec_zeros c3.regs) fun q11 =>
 some (RFrame.mk p1 0 p2 (cpy q5 p3) (cpy q7 p4) q11)
def spec_startState (p0 : RImage) (p1 : Int) : Option (RState) :=
 Option.bind (spec_frameOf p0 0 0 ([] : List Int) ([] : List Int)) fun q3 =>
 some (RState.mk 3 0 0 p1 [] [] [q3])
def spec_StartState (N : Nat) (p0 : RImage) (p1 : Int) : Option (RState × Bool) :=
 Option.bind (
  Option.bind (spec_validImage N p0) fun q10 =>
  if (!q10) = true then
   some true
  else
   Option.bind (spec_inRange p1 0 40) fun q12 =>
   some (!q12)
 ) fun t4 =>
 if t4 = true then
  some ((RState.mk 0 0 0 0 [] [] []), false)
 else
  Option.bind (spec_startState p0 p1) fun q9 =>
  some (q9, true)
def impl_newFrame (p0 : RImage) (p1 : Int) (p2 : Int) : Option (RFrame) :=
 Option.bind (Sh.get p0.procs p1) fun c3 =>
 Option.bind (Sh.mk 0 c3.regs 8) fun l5 =>
 some (RFrame.mk p1 0 p2 l5 l5 l5)
def impl_startState (p0 : RImage) (p1 : Int) : Option (RState) :=
 Option.bind (impl_newFrame p0 0 0) fun q3 =>
 some (RState.mk 3 0 0 p1 [] [] [q3])
def impl_StartState (N : Nat) (p0 : RImage) (p1 : Int) : Option (RState × Bool) :=
 Option.bind (
  Option.bind (impl_ValidImage N p0) fun q10 =>
  if (!q10) = true then
   some true
  else
  if (decide (p1 < 0)) = true then
   some true
  else
   some (decide (40 < p1))
 ) fun t4 =>
 if t4 = true then
  some ((RState.mk 0 0 0 0 [] [] []), false)
 else
  Option.bind (impl_startState p0 p1) fun q9 =>
  some (q9, true)
def laws_heldCellS_L1 (N : Nat) (p0 : (List Cell)) : Nat → Int → Int → Option ((Int) ⊕ (Int))
 | 0, _, _ => none
 | n + 1, k4, i5 =>
  if (decide (i5 < (Sh.len p0))) = true then
   Option.bind (Sh.get p0 i5) fun c15 =>
   if (!decide (c15.count = k4)) = true then
    some (Sum.inl (-1))
   else
   if (!decide (c15.tag = (Sh.w (k4 + 1)))) = true then
    some (Sum.inl (-1))
   else
    Option.bind (laws_heldIntS N c15.fields (Sh.w ((Sh.w (k4 + 1)) + 1))) fun q29 =>
    if (decide (q29 < 0)) = true then
     some (Sum.inl (-1))
    else
     laws_heldCellS_L1 N p0 n q29 (Sh.w (i5 + 1))
  else
   some (Sum.inr k4)
def laws_heldCellS (N : Nat) (p0 : (List Cell)) (p1 : Int) : Option (Int) :=
 Sh.cont (laws_heldCellS_L1 N p0 N p1 0) (id) fun k6 =>
 some k6
def laws_heldFrameS_L1 (N : Nat) (p0 : (List RFrame)) : Nat → Int → Int → Option ((Int) ⊕ (Int))
 | 0, _, _ => none
 | n + 1, k4, i5 =>
  if (decide (i5 < (Sh.len p0))) = true then
   Option.bind (Sh.get p0 i5) fun c15 =>
   if (!decide (c15.proc = k4)) = true then
    some (Sum.inl (-1))
   else
   if (!decide (c15.at_ = (Sh.w (k4 + 1)))) = true then
    some (Sum.inl (-1))
   else
   if (!decide (c15.dst = (Sh.w ((Sh.w (k4 + 1)) + 1)))) = true then
    some (Sum.inl (-1))
   else
    Option.bind (laws_heldIntS N c15.regs (Sh.w ((Sh.w ((Sh.w (k4 + 1)) + 1)) + 1))) fun q36 =>
    if (decide (q36 < 0)) = true then
     some (Sum.inl (-1))
    else
     Option.bind (laws_heldIntS N c15.own q36) fun q42 =>
     if (decide (q42 < 0)) = true then
      some (Sum.inl (-1))
     else
      Option.bind (laws_heldIntS N c15.held q42) fun q48 =>
      if (decide (q48 < 0)) = true then
       some (Sum.inl (-1))
      else
       laws_heldFrameS_L1 N p0 n q48 (Sh.w (i5 + 1))
  else
   some (Sum.inr k4)
def laws_heldFrameS (N : Nat) (p0 : (List RFrame)) (p1 : Int) : Option (Int) :=
 Sh.cont (laws_heldFrameS_L1 N p0 N p1 0) (id) fun k6 =>
 some k6
def laws_heldState (N : Nat) (p0 : RState) (p1 : Int) : Option (Int) :=
 Option.bind (laws_heldIntS N p0.out p1) fun q3 =>
 if (decide (q3 < 0)) = true then
  some (-1)
 else
  Option.bind (laws_heldCellS N p0.heap q3) fun q9 =>
  if (decide (q9 < 0)) = true then
   some (-1)
  else
   Option.bind (laws_heldFrameS N p0.frames q9) fun q15 =>
   if (decide (q15 < 0)) = true then
    some (-1)
   else
    some q15
def laws_FnExactStartState (N : Nat) (p0 : RImage) (p1 : Int) : Option (Bool) :=
 Option.bind (laws_szImage N p0 1048576) fun q4 =>
 if (decide (q4 < 0)) = true then
  some true
 else
  Option.bind (laws_toImage N p0) fun q10 =>
  Option.bind (spec_StartState N q10 p1) fun q11 =>
  Option.bind (laws_toImage N p0) fun q13 =>
  Option.bind (impl_StartState N q13 p1) fun q15 =>
  Option.bind (
   Option.bind (laws_eqState N q15.1 q11.1) fun q88 =>
   if (!q88) = true then
    some true
   else
    some (q15.2 != q11.2)
  ) fun t18 =>
  if t18 = true then
   some false
  else
   Option.bind (laws_toImage N p0) fun q24 =>
   Option.bind (laws_eqImage N q13 q24) fun q25 =>
   if (!q25) = true then
    some false
   else
    Option.bind (laws_markImage N q13.decls q13.procs 1) fun q32 =>
    Option.bind (
     if (decide (q32.1 < 0)) = true then
      some true
     else
      Option.bind (laws_eqState N q15.1 q11.1) fun q86 =>
      if (!q86) = true then
       some true
      else
       some (q15.2 != q11.2)
    ) fun t37 =>
    if t37 = true then
     some false
    else
     Option.bind (laws_markState N q15.1.out q15.1.heap q15.1.frames q15.1.status q15.1.value q15.1.calls q15.1.most 1) fun q43 =>
     Option.bind (laws_heldState N (RState.mk q15.1.status q15.1.value q15.1.calls q15.1.most q43.2.1 q43.2.2.1 q43.2.2.2) 1) fun q49 =>
     if (decide (q49 < 0)) = true then
      some false
     else
     if (!decide (q49 = q43.1)) = true then
      some false
     else
      Option.bind (laws_toImage N p0) fun q61 =>
      Option.bind (impl_StartState N q61 p1) fun q62 =>
      Option.bind (
       Option.bind (laws_eqState N q62.1 q11.1) fun q83 =>
       if (!q83) = true then
        some true
       else
        some (q62.2 != q11.2)
      ) fun t65 =>
      if t65 = true then
       some false
      else
       Option.bind (laws_heldState N (RState.mk q15.1.status q15.1.value q15.1.calls q15.1.most q43.2.1 q43.2.2.1 q43.2.2.2) 1) fun q71 =>
       if (decide (q71 < 0)) = true then
        some false
       else
       if (!decide (q71 = q43.1)) = true then
        some false
       else
        some true
end RC

