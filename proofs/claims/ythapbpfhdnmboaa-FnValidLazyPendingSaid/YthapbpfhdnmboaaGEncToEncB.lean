import Derived.Test.YthapbpfhdnmboaaAbsV

namespace RC
open Go Go.Abs
structure Cell where
 count:Int
 tag:Int
 fields:List Int
def eI (n:Int):List AV:=[.int .i64 n]
def AI (n:Int):List AV:=[.int .u8 n]
def eB (b:Bool):List AV:=[.bool b]
def eS {α:Type} (e:α→List AV) (l:List α):List AV:=[.sl (l.map e)]
def AA (c:Cell):List AV:=[.int .i64 c.count,.int .i64 c.tag,.sl (c.fields.map eI)]
structure BK where
 cells:List Cell
 pending:List Int
def BB (z:BK):List AV:=[.sl (z.cells.map AA),.sl (z.pending.map eI)]
def Dz (n:Int):Prop:=-9223372036854775808≤n∧n≤9223372036854775807
def U8 (n:Int):Prop:=0≤n∧n≤255
def H5 {α:Type} (good:α→Prop) (l:List α):Prop:=(∀x∈l,good x)∧l.length≤9223372036854775807
structure JD (c:Cell):Prop where
 count:Dz c.count
 tag:Dz c.tag
 L7:H5 Dz c.fields
theorem JD.fields {c:Cell} (h:JD c) :∀x∈c.fields,Dz x:=h.L7.1
end RC



namespace RC
open Go Go.Abs
structure OE (S:Type) where
 steps:List S
 result:Int
inductive Step where
 | mk (op num Sw:Int) (args:List Int) (kids:List (OE Step))
abbrev Block:=OE Step
@[reducible] def Block.mk (steps:List Step) (result:Int):Block:=⟨steps,result⟩
def Step.op:Step→Int | .mk o _ _ _ _=>o
def Step.num:Step→Int | .mk _ n _ _ _=>n
def Step.Sw:Step→Int | .mk _ _ i _ _=>i
def Step.args:Step→List Int | .mk _ _ _ a _=>a
def Step.kids:Step→List Block | .mk _ _ _ _ k=>k
end RC

