import Derived.Test.YtgcghdgbahfcjaaGreatGEncDToEncG
import Derived.Test.YtgcghdgbahfcjaaGreatHADefs
import Derived.Test.YtgcghdgbahfcjaaGreatIADefs
import Derived.Test.YtgcghdgbahfcjaaGreatVSDefs
import Derived.Test.YtgcghdgbahfcjaaGreatHBDefs
import Derived.Test.YtgcghdgbahfcjaaGreatRADefs
namespace RC
def laws_markConS_L1 (N : Nat) : Nat → Int → Int → (List RCon) → Option (Int × (List RCon))
 | 0, _, _, _ => none
 | n + 1, k4, i5, l6 =>
  if (decide (i5 < (Sh.len l6))) = true then
   Option.bind (Sh.get l6 i5) fun c15 =>
   Option.bind (laws_markIntS N c15.fields k4) fun q16 =>
   laws_markConS_L1 N n q16.1 (Sh.w (i5 + 1)) (Sh.put l6 i5 (RCon.mk q16.2))
  else
   some (k4, l6)
def laws_markConS (N : Nat) (s0 : (List RCon)) (p1 : Int) : Option (Int × (List RCon)) :=
 Option.bind (laws_markConS_L1 N N p1 0 s0) fun (k7, l8) =>
 some (k7, l8)
def laws_markDeclS_L1 (N : Nat) : Nat → Int → Int → (List RDecl) → Option (Int × (List RDecl))
 | 0, _, _, _ => none
 | n + 1, k4, i5, l6 =>
  if (decide (i5 < (Sh.len l6))) = true then
   Option.bind (Sh.get l6 i5) fun c16 =>
   Option.bind (Sh.get (Sh.put l6 i5 (RDecl.mk k4 c16.to c16.cons)) i5) fun c19 =>
   Option.bind (Sh.get (Sh.put (Sh.put l6 i5 (RDecl.mk k4 c16.to c16.cons)) i5 (RDecl.mk c19.from_ (Sh.w (k4 + 1)) c19.cons)) i5) fun c21 =>
   Option.bind (laws_markConS N c21.cons (Sh.w ((Sh.w (k4 + 1)) + 1))) fun q22 =>
   laws_markDeclS_L1 N n q22.1 (Sh.w (i5 + 1)) (Sh.put (Sh.put (Sh.put l6 i5 (RDecl.mk k4 c16.to c16.cons)) i5 (RDecl.mk c19.from_ (Sh.w (k4 + 1)) c19.cons)) i5 (RDecl.mk c21.from_ c21.to q22.2))
  else
   some (k4, l6)
def laws_markDeclS (N : Nat) (s0 : (List RDecl)) (p1 : Int) : Option (Int × (List RDecl)) :=
 Option.bind (laws_markDeclS_L1 N N p1 0 s0) fun (k7, l8) =>
 some (k7, l8)
def laws_markInstrS_L1 (N : Nat) : Nat → Int → Int → (List RInstr) → Option (Int × (List RInstr))
 | 0, _, _, _ => none
 | n + 1, k4, i5, l6 =>
  if (decide (i5 < (Sh.len l6))) = true then
   Option.bind (Sh.get l6 i5) fun c16 =>
   Option.bind (Sh.get (Sh.put l6 i5 (RInstr.mk k4 c16.dst c16.num c16.into c16.args c16.jumps)) i5) fun c19 =>
   Option.bind (Sh.get (Sh.put (Sh.put l6 i5 (RInstr.mk k4 c16.dst c16.num c16.into c16.args c16.jumps)) i5 (RInstr.mk c19.op (Sh.w (k4 + 1)) c19.num c19.into c19.args c19.jumps)) i5) fun c22 =>
   Option.bind (Sh.get (Sh.put (Sh.put (Sh.put l6 i5 (RInstr.mk k4 c16.dst c16.num c16.into c16.args c16.jumps)) i5 (RInstr.mk c19.op (Sh.w (k4 + 1)) c19.num c19.into c19.args c19.jumps)) i5 (RInstr.mk c22.op c22.dst (Sh.w ((Sh.w (k4 + 1)) + 1)) c22.into c22.args c22.jumps)) i5) fun c25 =>
   Option.bind (Sh.get (Sh.put (Sh.put (Sh.put (Sh.put l6 i5 (RInstr.mk k4 c16.dst c16.num c16.into c16.args c16.jumps)) i5 (RInstr.mk c19.op (Sh.w (k4 + 1)) c19.num c19.into c19.args c19.jumps)) i5 (RInstr.mk c22.op c22.dst (Sh.w ((Sh.w (k4 + 1)) + 1)) c22.into c22.args c22.jumps)) i5 (RInstr.mk c25.op c25.dst c25.num (Sh.w ((Sh.w ((Sh.w (k4 + 1)) + 1)) + 1)) c25.args c25.jumps)) i5) fun c28 =>
   Option.bind (laws_markIntS N c28.args (Sh.w ((Sh.w ((Sh.w ((Sh.w (k4 + 1)) + 1)) + 1)) + 1))) fun q29 =>
   Option.bind (Sh.get (Sh.put (Sh.put (Sh.put (Sh.put (Sh.put l6 i5 (RInstr.mk k4 c16.dst c16.num c16.into c16.args c16.jumps)) i5 (RInstr.mk c19.op (Sh.w (k4 + 1)) c19.num c19.into c19.args c19.jumps)) i5 (RInstr.mk c22.op c22.dst (Sh.w ((Sh.w (k4 + 1)) + 1)) c22.into c22.args c22.jumps)) i5 (RInstr.mk c25.op c25.dst c25.num (Sh.w ((Sh.w ((Sh.w (k4 + 1)) + 1)) + 1)) c25.args c25.jumps)) i5 (RInstr.mk c28.op c28.dst c28.num c28.into q29.2 c28.jumps)) i5) fun c31 =>
   Option.bind (laws_markIntS N c31.jumps q29.1) fun q32 =>
   laws_markInstrS_L1 N n q32.1 (Sh.w (i5 + 1)) (Sh.put (Sh.put (Sh.put (Sh.put (Sh.put (Sh.put l6 i5 (RInstr.mk k4 c16.dst c16.num c16.into c16.args c16.jumps)) i5 (RInstr.mk c19.op (Sh.w (k4 + 1)) c19.num c19.into c19.args c19.jumps)) i5 (RInstr.mk c22.op c22.dst (Sh.w ((Sh.w (k4 + 1)) + 1)) c22.into c22.args c22.jumps)) i5 (RInstr.mk c25.op c25.dst c25.num (Sh.w ((Sh.w ((Sh.w (k4 + 1)) + 1)) + 1)) c25.args c25.jumps)) i5 (RInstr.mk c28.op c28.dst c28.num c28.into q29.2 c28.jumps)) i5 (RInstr.mk c31.op c31.dst c31.num c31.into c31.args q32.2))
  else
   some (k4, l6)
def laws_markInstrS (N : Nat) (s0 : (List RInstr)) (p1 : Int) : Option (Int × (List RInstr)) :=
 Option.bind (laws_markInstrS_L1 N N p1 0 s0) fun (k7, l8) =>
 some (k7, l8)
def laws_markProcS_L1 (N : Nat) : Nat → Int → Int → (List RProc) → Option (Int × (List RProc))
 | 0, _, _, _ => none
 | n + 1, k4, i5, l6 =>
  if (decide (i5 < (Sh.len l6))) = true then
   Option.bind (Sh.get l6 i5) fun c16 =>
   Option.bind (laws_markIntS N c16.params k4) fun q17 =>
   Option.bind (Sh.get (Sh.put l6 i5 (RProc.mk q17.2 c16.lent c16.result c16.regs c16.code)) i5) fun c20 =>
   Option.bind (laws_markIntS N c20.lent q17.1) fun q21 =>
   Option.bind (Sh.get (Sh.put (Sh.put l6 i5 (RProc.mk q17.2 c16.lent c16.result c16.regs c16.code)) i5 (RProc.mk c20.params q21.2 c20.result c20.regs c20.code)) i5) fun c24 =>
   Option.bind (Sh.get (Sh.put (Sh.put (Sh.put l6 i5 (RProc.mk q17.2 c16.lent c16.result c16.regs c16.code)) i5 (RProc.mk c20.params q21.2 c20.result c20.regs c20.code)) i5 (RProc.mk c24.params c24.lent q21.1 c24.regs c24.code)) i5) fun c27 =>
   Option.bind (Sh.get (Sh.put (Sh.put (Sh.put (Sh.put l6 i5 (RProc.mk q17.2 c16.lent c16.result c16.regs c16.code)) i5 (RProc.mk c20.params q21.2 c20.result c20.regs c20.code)) i5 (RProc.mk c24.params c24.lent q21.1 c24.regs c24.code)) i5 (RProc.mk c27.params c27.lent c27.result (Sh.w (q21.1 + 1)) c27.code)) i5) fun c29 =>
   Option.bind (laws_markInstrS N c29.code (Sh.w ((Sh.w (q21.1 + 1)) + 1))) fun q30 =>
   laws_markProcS_L1 N n q30.1 (Sh.w (i5 + 1)) (Sh.put (Sh.put (Sh.put (Sh.put (Sh.put l6 i5 (RProc.mk q17.2 c16.lent c16.result c16.regs c16.code)) i5 (RProc.mk c20.params q21.2 c20.result c20.regs c20.code)) i5 (RProc.mk c24.params c24.lent q21.1 c24.regs c24.code)) i5 (RProc.mk c27.params c27.lent c27.result (Sh.w (q21.1 + 1)) c27.code)) i5 (RProc.mk c29.params c29.lent c29.result c29.regs q30.2))
  else
   some (k4, l6)
def laws_markProcS (N : Nat) (s0 : (List RProc)) (p1 : Int) : Option (Int × (List RProc)) :=
 Option.bind (laws_markProcS_L1 N N p1 0 s0) fun (k7, l8) =>
 some (k7, l8)
def laws_markImage (N : Nat) (s0 : (List RDecl)) (s1 : (List RProc)) (p1 : Int) : Option (Int × (List RDecl) × (List RProc)) :=
 Option.bind (laws_markDeclS N s0 p1) fun q3 =>
 Option.bind (laws_markProcS N s1 q3.1) fun q6 =>
 some (q6.1, q3.2, q6.2)
end RC

