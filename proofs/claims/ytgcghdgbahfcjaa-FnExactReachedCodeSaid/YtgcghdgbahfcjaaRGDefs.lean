import Derived.Test.YtgcghdgbahfcjaaGEncCToEncG
import Derived.Test.YtgcghdgbahfcjaaHADefs
import Derived.Test.YtgcghdgbahfcjaaIADefs
import Derived.Test.YtgcghdgbahfcjaaVSDefs
import Derived.Test.YtgcghdgbahfcjaaHBDefs
import Derived.Test.YtgcghdgbahfcjaaRADefs
namespace RC
def spec_isIn_L1 (p0 : (List Int)) (p1 : Int) : Nat → Int → Option ((Bool) ⊕ (Unit))
  | 0, _ => none
  | n + 1, i4 =>
    if (decide (i4 < (Sh.len p0))) = true then
      Option.bind (Sh.get p0 i4) fun c12 =>
      if (decide (c12 = p1)) = true then
        some (Sum.inl true)
      else
        spec_isIn_L1 p0 p1 n (Sh.w (i4 + 1))
    else
      some (Sum.inr ())
def spec_isIn (N : Nat) (p0 : (List Int)) (p1 : Int) : Option (Bool) :=
  Sh.cont (spec_isIn_L1 p0 p1 N 0) (id) fun () =>
  some false
def spec_insert_L1 (p0 : (List Int)) (p1 : Int) : Nat → Bool → Int → (List Int) → Option (Bool × (List Int))
  | 0, _, _, _ => none
  | n + 1, done6, i7, l8 =>
    if (decide (i7 < (Sh.len p0))) = true then
      Option.bind (
        Option.bind (
          if (!done6) = true then
            Option.bind (Sh.get p0 i7) fun c43 =>
            some (decide (p1 ≤ c43))
          else
            some false
        ) fun t32 =>
        if t32 = true then
          Option.bind (
            Option.bind (Sh.get p0 i7) fun c39 =>
            if (decide (p1 < c39)) = true then
              Option.bind (Sh.app l8 [p1] 8) fun l41 =>
              some l41
            else
              some l8
          ) fun l36 =>
          some (true, l36)
        else
          some (done6, l8)
      ) fun (done26, l27) =>
      Option.bind (Sh.get p0 i7) fun c29 =>
      Option.bind (Sh.app l27 [c29] 8) fun l30 =>
      spec_insert_L1 p0 p1 n done26 (Sh.w (i7 + 1)) l30
    else
      some (done6, l8)
def spec_insert (N : Nat) (p0 : (List Int)) (p1 : Int) : Option ((List Int)) :=
  Option.bind (spec_insert_L1 p0 p1 N false 0 []) fun (done9, l10) =>
  Option.bind (
    if (!done9) = true then
      Option.bind (Sh.app l10 [p1] 8) fun l19 =>
      some l19
    else
      some l10
  ) fun l13 =>
  some l13
def spec_nextOf_L1 (N : Nat) (c3 : RInstr) : Nat → Int → (List Int) → Option ((List Int))
  | 0, _, _ => none
  | n + 1, k23, l24 =>
    if (decide (k23 < (Sh.len c3.jumps))) = true then
      Option.bind (Sh.get c3.jumps k23) fun c32 =>
      Option.bind (spec_insert N l24 c32) fun q33 =>
      spec_nextOf_L1 N c3 n (Sh.w (k23 + 1)) q33
    else
      some l24
def spec_nextOf (N : Nat) (p0 : (List RInstr)) (p1 : Int) : Option ((List Int)) :=
  Option.bind (Sh.get p0 p1) fun c3 =>
  Option.bind (
    if (decide (c3.op = 23)) = true then
      some true
    else
      some (decide (c3.op = 24))
  ) fun t7 =>
  if t7 = true then
    some []
  else
  if (decide (c3.op = 22)) = true then
    some [c3.num]
  else
  if (decide (c3.op = 20)) = true then
    Option.bind (spec_insert N [Sh.w (p1 + 1)] c3.num) fun q17 =>
    some q17
  else
  if (decide (c3.op = 21)) = true then
    Option.bind (spec_nextOf_L1 N c3 N 0 []) fun l25 =>
    some l25
  else
    some [Sh.w (p1 + 1)]
def spec_ReachedCode_L2 (N : Nat) (q27 : (List Int)) : Nat → Int → (List Int) → Option ((List Int))
  | 0, _, _ => none
  | n + 1, k30, l31 =>
    if (decide (k30 < (Sh.len q27))) = true then
      Option.bind (Sh.get q27 k30) fun c38 =>
      Option.bind (spec_insert N l31 c38) fun q39 =>
      spec_ReachedCode_L2 N q27 n (Sh.w (k30 + 1)) q39
    else
      some l31
def spec_ReachedCode_L1 (N : Nat) (p0 : RImage) (p1 : Int) : Nat → Int → (List Int) → Option ((List Int))
  | 0, _, _ => none
  | n + 1, at11, l12 =>
    Option.bind (Sh.get p0.procs p1) fun c18 =>
    if (decide (at11 < (Sh.len c18.code))) = true then
      Option.bind (
        Option.bind (spec_isIn N l12 at11) fun q24 =>
        if q24 = true then
          Option.bind (spec_nextOf N c18.code at11) fun q27 =>
          Option.bind (spec_ReachedCode_L2 N q27 N 0 l12) fun l32 =>
          some l32
        else
          some l12
      ) fun l21 =>
      spec_ReachedCode_L1 N p0 p1 n (Sh.w (at11 + 1)) l21
    else
      some l12
def spec_ReachedCode (N : Nat) (p0 : RImage) (p1 : Int) : Option ((List Int)) :=
  Option.bind (
    Option.bind (spec_validImage N p0) fun q40 =>
    if (!q40) = true then
      some true
    else
      Option.bind (spec_inRange p1 0 (Sh.w ((Sh.len p0.procs) - 1))) fun q42 =>
      some (!q42)
  ) fun t4 =>
  if t4 = true then
    some []
  else
    Option.bind (spec_ReachedCode_L1 N p0 p1 N 0 [0]) fun l13 =>
    some l13
def impl_Instr_nexts (p0 : RInstr) (p1 : Int) : Option ((List Int)) :=
  if (decide (p0.op = 22)) = true then
    some [p0.num]
  else
  if (decide (p0.op = 20)) = true then
    some [Sh.w (p1 + 1), p0.num]
  else
  if (decide (p0.op = 21)) = true then
    some p0.jumps
  else
    Option.bind (
      if (decide (p0.op = 23)) = true then
        some true
      else
        some (decide (p0.op = 24))
    ) fun t14 =>
    if t14 = true then
      some []
    else
      some [Sh.w (p1 + 1)]
def impl_ReachedCode_L2 (q34 : (List Int)) : Nat → Int → (List Bool) → Option ((List Bool))
  | 0, _, _ => none
  | n + 1, t36, l37 =>
    if (decide (t36 < (Sh.len q34))) = true then
      Option.bind (Sh.get q34 t36) fun c45 =>
      Option.bind (Sh.get l37 c45) fun c46 =>
      impl_ReachedCode_L2 q34 n (Sh.w (t36 + 1)) (Sh.put l37 c45 true)
    else
      some l37
def impl_ReachedCode_L1 (N : Nat) (c9 : RProc) : Nat → Int → (List Bool) → Option ((List Bool))
  | 0, _, _ => none
  | n + 1, t16, l17 =>
    if (decide (t16 < (Sh.len c9.code))) = true then
      Option.bind (
        Option.bind (Sh.get c9.code t16) fun c29 =>
        Option.bind (Sh.get l17 t16) fun c31 =>
        if c31 = true then
          Option.bind (impl_Instr_nexts c29 t16) fun q34 =>
          Option.bind (impl_ReachedCode_L2 q34 N 0 l17) fun l38 =>
          some l38
        else
          some l17
      ) fun l26 =>
      impl_ReachedCode_L1 N c9 n (Sh.w (t16 + 1)) l26
    else
      some l17
def impl_ReachedCode (N : Nat) (p0 : RImage) (p1 : Int) : Option ((List Int)) :=
  Option.bind (
    Option.bind (impl_ValidImage N p0) fun q47 =>
    if (!q47) = true then
      some true
    else
    if (decide (p1 < 0)) = true then
      some true
    else
      some (decide ((Sh.len p0.procs) ≤ p1))
  ) fun t4 =>
  if t4 = true then
    some []
  else
    Option.bind (Sh.get p0.procs p1) fun c9 =>
    Option.bind (Sh.mk false (Sh.len c9.code) 1) fun l11 =>
    Option.bind (Sh.get l11 0) fun c13 =>
    Option.bind (impl_ReachedCode_L1 N c9 N 0 (Sh.put l11 0 true)) fun l18 =>
    Option.bind (impl_indicesOf N l18) fun q21 =>
    some q21
def laws_markConS_L1 (N : Nat) : Nat → Int → Int → (List RCon) → Option (Int × (List RCon))
  | 0, _, _, _ => none
  | n + 1, k4, i5, l6 =>
    if (decide (i5 < (Sh.len l6))) = true then
      Option.bind (Sh.get l6 i5) fun c15 =>
      Option.bind (laws_markIntS N c15.fields k4) fun q16 =>
      laws_markConS_L1 N n q16.1 (Sh.w (i5 + 1)) (Sh.put l6 i5 (RCon.mk q16.2))
    else
      some (k4, l6)
def laws_markConS (N : Nat) (s0 : (List RCon)) (p1 : Int) : Option (Int × (List RCon)) :=
  Option.bind (laws_markConS_L1 N N p1 0 s0) fun (k7, l8) =>
  some (k7, l8)
def laws_markDeclS_L1 (N : Nat) : Nat → Int → Int → (List RDecl) → Option (Int × (List RDecl))
  | 0, _, _, _ => none
  | n + 1, k4, i5, l6 =>
    if (decide (i5 < (Sh.len l6))) = true then
      Option.bind (Sh.get l6 i5) fun c16 =>
      Option.bind (Sh.get (Sh.put l6 i5 (RDecl.mk k4 c16.to c16.cons)) i5) fun c19 =>
      Option.bind (Sh.get (Sh.put (Sh.put l6 i5 (RDecl.mk k4 c16.to c16.cons)) i5 (RDecl.mk c19.from_ (Sh.w (k4 + 1)) c19.cons)) i5) fun c21 =>
      Option.bind (laws_markConS N c21.cons (Sh.w ((Sh.w (k4 + 1)) + 1))) fun q22 =>
      laws_markDeclS_L1 N n q22.1 (Sh.w (i5 + 1)) (Sh.put (Sh.put (Sh.put l6 i5 (RDecl.mk k4 c16.to c16.cons)) i5 (RDecl.mk c19.from_ (Sh.w (k4 + 1)) c19.cons)) i5 (RDecl.mk c21.from_ c21.to q22.2))
    else
      some (k4, l6)
def laws_markDeclS (N : Nat) (s0 : (List RDecl)) (p1 : Int) : Option (Int × (List RDecl)) :=
  Option.bind (laws_markDeclS_L1 N N p1 0 s0) fun (k7, l8) =>
  some (k7, l8)
def laws_markInstrS_L1 (N : Nat) : Nat → Int → Int → (List RInstr) → Option (Int × (List RInstr))
  | 0, _, _, _ => none
  | n + 1, k4, i5, l6 =>
    if (decide (i5 < (Sh.len l6))) = true then
      Option.bind (Sh.get l6 i5) fun c16 =>
      Option.bind (Sh.get (Sh.put l6 i5 (RInstr.mk k4 c16.dst c16.num c16.into c16.args c16.jumps)) i5) fun c19 =>
      Option.bind (Sh.get (Sh.put (Sh.put l6 i5 (RInstr.mk k4 c16.dst c16.num c16.into c16.args c16.jumps)) i5 (RInstr.mk c19.op (Sh.w (k4 + 1)) c19.num c19.into c19.args c19.jumps)) i5) fun c22 =>
      Option.bind (Sh.get (Sh.put (Sh.put (Sh.put l6 i5 (RInstr.mk k4 c16.dst c16.num c16.into c16.args c16.jumps)) i5 (RInstr.mk c19.op (Sh.w (k4 + 1)) c19.num c19.into c19.args c19.jumps)) i5 (RInstr.mk c22.op c22.dst (Sh.w ((Sh.w (k4 + 1)) + 1)) c22.into c22.args c22.jumps)) i5) fun c25 =>
      Option.bind (Sh.get (Sh.put (Sh.put (Sh.put (Sh.put l6 i5 (RInstr.mk k4 c16.dst c16.num c16.into c16.args c16.jumps)) i5 (RInstr.mk c19.op (Sh.w (k4 + 1)) c19.num c19.into c19.args c19.jumps)) i5 (RInstr.mk c22.op c22.dst (Sh.w ((Sh.w (k4 + 1)) + 1)) c22.into c22.args c22.jumps)) i5 (RInstr.mk c25.op c25.dst c25.num (Sh.w ((Sh.w ((Sh.w (k4 + 1)) + 1)) + 1)) c25.args c25.jumps)) i5) fun c28 =>
      Option.bind (laws_markIntS N c28.args (Sh.w ((Sh.w ((Sh.w ((Sh.w (k4 + 1)) + 1)) + 1)) + 1))) fun q29 =>
      Option.bind (Sh.get (Sh.put (Sh.put (Sh.put (Sh.put (Sh.put l6 i5 (RInstr.mk k4 c16.dst c16.num c16.into c16.args c16.jumps)) i5 (RInstr.mk c19.op (Sh.w (k4 + 1)) c19.num c19.into c19.args c19.jumps)) i5 (RInstr.mk c22.op c22.dst (Sh.w ((Sh.w (k4 + 1)) + 1)) c22.into c22.args c22.jumps)) i5 (RInstr.mk c25.op c25.dst c25.num (Sh.w ((Sh.w ((Sh.w (k4 + 1)) + 1)) + 1)) c25.args c25.jumps)) i5 (RInstr.mk c28.op c28.dst c28.num c28.into q29.2 c28.jumps)) i5) fun c31 =>
      Option.bind (laws_markIntS N c31.jumps q29.1) fun q32 =>
      laws_markInstrS_L1 N n q32.1 (Sh.w (i5 + 1)) (Sh.put (Sh.put (Sh.put (Sh.put (Sh.put (Sh.put l6 i5 (RInstr.mk k4 c16.dst c16.num c16.into c16.args c16.jumps)) i5 (RInstr.mk c19.op (Sh.w (k4 + 1)) c19.num c19.into c19.args c19.jumps)) i5 (RInstr.mk c22.op c22.dst (Sh.w ((Sh.w (k4 + 1)) + 1)) c22.into c22.args c22.jumps)) i5 (RInstr.mk c25.op c25.dst c25.num (Sh.w ((Sh.w ((Sh.w (k4 + 1)) + 1)) + 1)) c25.args c25.jumps)) i5 (RInstr.mk c28.op c28.dst c28.num c28.into q29.2 c28.jumps)) i5 (RInstr.mk c31.op c31.dst c31.num c31.into c31.args q32.2))
    else
      some (k4, l6)
def laws_markInstrS (N : Nat) (s0 : (List RInstr)) (p1 : Int) : Option (Int × (List RInstr)) :=
  Option.bind (laws_markInstrS_L1 N N p1 0 s0) fun (k7, l8) =>
  some (k7, l8)
def laws_markProcS_L1 (N : Nat) : Nat → Int → Int → (List RProc) → Option (Int × (List RProc))
  | 0, _, _, _ => none
  | n + 1, k4, i5, l6 =>
    if (decide (i5 < (Sh.len l6))) = true then
      Option.bind (Sh.get l6 i5) fun c16 =>
      Option.bind (laws_markIntS N c16.params k4) fun q17 =>
      Option.bind (Sh.get (Sh.put l6 i5 (RProc.mk q17.2 c16.lent c16.result c16.regs c16.code)) i5) fun c20 =>
      Option.bind (laws_markIntS N c20.lent q17.1) fun q21 =>
      Option.bind (Sh.get (Sh.put (Sh.put l6 i5 (RProc.mk q17.2 c16.lent c16.result c16.regs c16.code)) i5 (RProc.mk c20.params q21.2 c20.result c20.regs c20.code)) i5) fun c24 =>
      Option.bind (Sh.get (Sh.put (Sh.put (Sh.put l6 i5 (RProc.mk q17.2 c16.lent c16.result c16.regs c16.code)) i5 (RProc.mk c20.params q21.2 c20.result c20.regs c20.code)) i5 (RProc.mk c24.params c24.lent q21.1 c24.regs c24.code)) i5) fun c27 =>
      Option.bind (Sh.get (Sh.put (Sh.put (Sh.put (Sh.put l6 i5 (RProc.mk q17.2 c16.lent c16.result c16.regs c16.code)) i5 (RProc.mk c20.params q21.2 c20.result c20.regs c20.code)) i5 (RProc.mk c24.params c24.lent q21.1 c24.regs c24.code)) i5 (RProc.mk c27.params c27.lent c27.result (Sh.w (q21.1 + 1)) c27.code)) i5) fun c29 =>
      Option.bind (laws_markInstrS N c29.code (Sh.w ((Sh.w (q21.1 + 1)) + 1))) fun q30 =>
      laws_markProcS_L1 N n q30.1 (Sh.w (i5 + 1)) (Sh.put (Sh.put (Sh.put (Sh.put (Sh.put l6 i5 (RProc.mk q17.2 c16.lent c16.result c16.regs c16.code)) i5 (RProc.mk c20.params q21.2 c20.result c20.regs c20.code)) i5 (RProc.mk c24.params c24.lent q21.1 c24.regs c24.code)) i5 (RProc.mk c27.params c27.lent c27.result (Sh.w (q21.1 + 1)) c27.code)) i5 (RProc.mk c29.params c29.lent c29.result c29.regs q30.2))
    else
      some (k4, l6)
def laws_markProcS (N : Nat) (s0 : (List RProc)) (p1 : Int) : Option (Int × (List RProc)) :=
  Option.bind (laws_markProcS_L1 N N p1 0 s0) fun (k7, l8) =>
  some (k7, l8)
def laws_markImage (N : Nat) (s0 : (List RDecl)) (s1 : (List RProc)) (p1 : Int) : Option (Int × (List RDecl) × (List RProc)) :=
  Option.bind (laws_markDeclS N s0 p1) fun q3 =>
  Option.bind (laws_markProcS N s1 q3.1) fun q6 =>
  some (q6.1, q3.2, q6.2)
def laws_FnExactReachedCode (N : Nat) (p0 : RImage) (p1 : Int) : Option (Bool) :=
  Option.bind (laws_szImage N p0 1048576) fun q4 =>
  if (decide (q4 < 0)) = true then
    some true
  else
    Option.bind (laws_toImage N p0) fun q10 =>
    Option.bind (spec_ReachedCode N q10 p1) fun q11 =>
    Option.bind (laws_toImage N p0) fun q13 =>
    Option.bind (impl_ReachedCode N q13 p1) fun q15 =>
    Option.bind (laws_eqIntS N q15 q11) fun q18 =>
    if (!q18) = true then
      some false
    else
      Option.bind (laws_toImage N p0) fun q25 =>
      Option.bind (laws_eqImage N q13 q25) fun q26 =>
      if (!q26) = true then
        some false
      else
        Option.bind (laws_markImage N q13.decls q13.procs 1) fun q33 =>
        Option.bind (
          if (decide (q33.1 < 0)) = true then
            some true
          else
            Option.bind (laws_eqIntS N q15 q11) fun q84 =>
            some (!q84)
        ) fun t38 =>
        if t38 = true then
          some false
        else
          Option.bind (laws_markIntS N q15 1) fun q44 =>
          Option.bind (laws_heldIntS N q44.2 1) fun q48 =>
          if (decide (q48 < 0)) = true then
            some false
          else
          if (!decide (q48 = q44.1)) = true then
            some false
          else
            Option.bind (laws_toImage N p0) fun q60 =>
            Option.bind (impl_ReachedCode N q60 p1) fun q61 =>
            Option.bind (laws_eqIntS N q61 q11) fun q64 =>
            if (!q64) = true then
              some false
            else
              Option.bind (laws_heldIntS N q44.2 1) fun q71 =>
              if (decide (q71 < 0)) = true then
                some false
              else
              if (!decide (q71 = q44.1)) = true then
                some false
              else
                some true
end RC

