import Derived.Test.YtgcghdgbahfcjaaGreatGEncCToAbsZB
import Derived.Test.YtgcghdgbahfcjaaGreatAbsZC

namespace RC
open Go Go.Abs
theorem und_map {α : Type} {l : List α} {enc enc' : α → List AV} (h : ∀ x, undC (enc x) = enc' x) : undR (l.map enc) = l.map enc' := by
 rw [undR_eq, List.map_map]
 exact List.map_congr_left fun x _ => h x
theorem eI_und (n : Int) : undC (eI n) = eI n := rfl
def eCellD (ti : Nat) (c : Cell) : List AV := [.int .i64 c.count, .int .i64 c.tag, .dv ti 1 (c.fields.map eI)]
theorem eCellD_und {ti : Nat} (c : Cell) : undC (eCellD ti c) = eCell c := by
 simp only [eCellD, undC, und, und_map eI_und, eCell]
end RC



namespace RC
open Go Go.Abs
structure RFrame where
 proc : Int
 at_ : Int
 dst : Int
 regs : List Int
 own : List Int
 held : List Int
structure RState where
 status : Int
 value : Int
 calls : Int
 most : Int
 out : List Int
 heap : List Cell
 frames : List RFrame
def eRFrame (f : RFrame) : List AV := [.int .i64 f.proc, .int .i64 f.at_, .int .i64 f.dst, .sl (f.regs.map eI), .sl (f.own.map eI), .sl (f.held.map eI)]
def eRState (s : RState) : List AV := [.int .i64 s.status, .int .i64 s.value, .int .i64 s.calls, .int .i64 s.most, .sl (s.out.map eI), .sl (s.heap.map eCell), .sl (s.frames.map eRFrame)]
structure RFrameIn (f : RFrame) : Prop where
 proc : I64 f.proc
 at_ : I64 f.at_
 dst : I64 f.dst
 regs : ListIn I64 f.regs
 own : ListIn I64 f.own
 held : ListIn I64 f.held
structure RStateIn (s : RState) : Prop where
 status : I64 s.status
 value : I64 s.value
 calls : I64 s.calls
 most : I64 s.most
 out : ListIn I64 s.out
 heap : ListIn CellIn s.heap
 frames : ListIn RFrameIn s.frames
end RC



namespace RC
open Go Go.Abs
def eRConD (a : Nat) (c : RCon) : List AV := [.dv a 1 (c.fields.map eI)]
theorem eRConD_und {a : Nat} (c : RCon) : undC (eRConD a c) = eRCon c := by
 simp only [eRConD, undC, und, und_map eI_und, eRCon]
def eRDeclD (a b : Nat) (d : RDecl) : List AV := [.int .i64 d.from_, .int .i64 d.to, .dv a 1 (d.cons.map (eRConD b))]
theorem eRDeclD_und {a b : Nat} (d : RDecl) : undC (eRDeclD a b d) = eRDecl d := by
 simp only [eRDeclD, undC, und, und_map eRConD_und, eRDecl]
def eRInstrD (a b : Nat) (i : RInstr) : List AV := [.int .i64 i.op, .int .i64 i.dst, .int .i64 i.num, .int .i64 i.into, .dv a 1 (i.args.map eI), .dv b 1 (i.jumps.map eI)]
theorem eRInstrD_und {a b : Nat} (i : RInstr) : undC (eRInstrD a b i) = eRInstr i := by
 simp only [eRInstrD, undC, und, und_map eI_und, eRInstr]
def eRProcD (a b c d e : Nat) (p : RProc) : List AV := [.dv a 1 (p.params.map eI), .dv b 1 (p.lent.map eI), .int .i64 p.result, .int .i64 p.regs, .dv c 6 (p.code.map (eRInstrD d e))]
theorem eRProcD_und {a b c d e : Nat} (p : RProc) : undC (eRProcD a b c d e p) = eRProc p := by
 simp only [eRProcD, undC, und, und_map eI_und, und_map eRInstrD_und, eRProc]
def eRFrameD (a b c : Nat) (f : RFrame) : List AV := [.int .i64 f.proc, .int .i64 f.at_, .int .i64 f.dst, .dv a 1 (f.regs.map eI), .dv b 1 (f.own.map eI), .dv c 1 (f.held.map eI)]
theorem eRFrameD_und {a b c : Nat} (f : RFrame) : undC (eRFrameD a b c f) = eRFrame f := by
 simp only [eRFrameD, undC, und, und_map eI_und, eRFrame]
end RC

