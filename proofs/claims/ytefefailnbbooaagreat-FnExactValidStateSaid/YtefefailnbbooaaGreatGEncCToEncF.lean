import Derived.Test.YtefefailnbbooaaGreatGEncToEncB
import Derived.Test.YtefefailnbbooaaGreatAbsW

namespace RC
open Go Go.Abs
structure RCon where
  fields : List Int
structure RDecl where
  from_ : Int
  to : Int
  cons : List RCon
structure RInstr where
  op : Int
  dst : Int
  num : Int
  into : Int
  args : List Int
  jumps : List Int
structure RProc where
  params : List Int
  lent : List Int
  result : Int
  regs : Int
  code : List RInstr
structure RImage where
  decls : List RDecl
  procs : List RProc
structure RSignature where
  params : List Int
  lent : List Int
  result : Int
structure RSignatures where
  decls : List RDecl
  funcs : List RSignature
inductive RExpr where
  | mk (op num : Int) (kids : List RExpr)
def RExpr.op : RExpr → Int | .mk o _ _ => o
def RExpr.num : RExpr → Int | .mk _ n _ => n
def RExpr.kids : RExpr → List RExpr | .mk _ _ k => k
structure RFunc where
  params : List Int
  result : Int
  body : RExpr
structure RProgram where
  decls : List RDecl
  funcs : List RFunc
def eRCon (c : RCon) : List AV := [.sl (c.fields.map eI)]
def eRDecl (d : RDecl) : List AV := [.int .i64 d.from_, .int .i64 d.to, .sl (d.cons.map eRCon)]
def eRInstr (i : RInstr) : List AV := [.int .i64 i.op, .int .i64 i.dst, .int .i64 i.num, .int .i64 i.into, .sl (i.args.map eI), .sl (i.jumps.map eI)]
def eRProc (p : RProc) : List AV := [.sl (p.params.map eI), .sl (p.lent.map eI), .int .i64 p.result, .int .i64 p.regs, .sl (p.code.map eRInstr)]
def eRImage (x : RImage) : List AV := [.sl (x.decls.map eRDecl), .sl (x.procs.map eRProc)]
def eRSignature (p : RSignature) : List AV := [.sl (p.params.map eI), .sl (p.lent.map eI), .int .i64 p.result]
def eRSignatures (x : RSignatures) : List AV := [.sl (x.decls.map eRDecl), .sl (x.funcs.map eRSignature)]
noncomputable def eRExpr (s : RExpr) : List AV :=
  RExpr.rec (motive_1 := fun _ => List AV) (motive_2 := fun _ => List (List AV)) (fun o n _ ks => [.int .i64 o, .int .i64 n, .sl ks]) [] (fun _ _ b bs => b :: bs) s
noncomputable def eRFunc (f : RFunc) : List AV := [.sl (f.params.map eI), .int .i64 f.result, .int .i64 f.body.op, .int .i64 f.body.num, .sl (f.body.kids.map eRExpr)]
structure RConIn (c : RCon) : Prop where
  fields : ListIn I64 c.fields
structure RDeclIn (d : RDecl) : Prop where
  from_ : I64 d.from_
  to : I64 d.to
  cons : ListIn RConIn d.cons
structure RInstrIn (i : RInstr) : Prop where
  op : I64 i.op
  dst : I64 i.dst
  num : I64 i.num
  into : I64 i.into
  args : ListIn I64 i.args
  jumps : ListIn I64 i.jumps
structure RProcIn (p : RProc) : Prop where
  params : ListIn I64 p.params
  lent : ListIn I64 p.lent
  result : I64 p.result
  regs : I64 p.regs
  code : ListIn RInstrIn p.code
structure RImageIn (x : RImage) : Prop where
  decls : ListIn RDeclIn x.decls
  procs : ListIn RProcIn x.procs
end RC



namespace RC
open Go Go.Abs
structure RFrame where
  proc : Int
  at_ : Int
  dst : Int
  regs : List Int
  own : List Int
  held : List Int
structure RState where
  status : Int
  value : Int
  calls : Int
  most : Int
  out : List Int
  heap : List Cell
  frames : List RFrame
def eRFrame (f : RFrame) : List AV := [.int .i64 f.proc, .int .i64 f.at_, .int .i64 f.dst, .sl (f.regs.map eI), .sl (f.own.map eI), .sl (f.held.map eI)]
def eRState (s : RState) : List AV := [.int .i64 s.status, .int .i64 s.value, .int .i64 s.calls, .int .i64 s.most, .sl (s.out.map eI), .sl (s.heap.map eCell), .sl (s.frames.map eRFrame)]
structure RFrameIn (f : RFrame) : Prop where
  proc : I64 f.proc
  at_ : I64 f.at_
  dst : I64 f.dst
  regs : ListIn I64 f.regs
  own : ListIn I64 f.own
  held : ListIn I64 f.held
structure RStateIn (s : RState) : Prop where
  status : I64 s.status
  value : I64 s.value
  calls : I64 s.calls
  most : I64 s.most
  out : ListIn I64 s.out
  heap : ListIn CellIn s.heap
  frames : ListIn RFrameIn s.frames
end RC

