import Derived.Test.YthapbpfhdnmboaaAbsV

namespace RC
open Go Go.Abs
structure Cell where
 count:Int
 tag:Int
 fields:List Int
def eI (n:Int):List AV:=[.int .i64 n]
def AI (n:Int):List AV:=[.int .u8 n]
def eB (b:Bool):List AV:=[.bool b]
def eS {α:Type} (e:α→List AV) (l:List α):List AV:=[.sl (l.map e)]
def AA (c:Cell):List AV:=[.int .i64 c.count,.int .i64 c.tag,.sl (c.fields.map eI)]
structure BJ where
 cells:List Cell
 pending:List Int
def A9 (z:BJ):List AV:=[.sl (z.cells.map AA),.sl (z.pending.map eI)]
def Dz (n:Int):Prop:=-9223372036854775808≤n∧n≤9223372036854775807
def U8 (n:Int):Prop:=0≤n∧n≤255
def Hw {α:Type} (good:α→Prop) (l:List α):Prop:=(∀x∈l,good x)∧l.length≤9223372036854775807
structure I2 (c:Cell):Prop where
 count:Dz c.count
 tag:Dz c.tag
 L7:Hw Dz c.fields
theorem I2.fields {c:Cell} (h:I2 c) :∀x∈c.fields,Dz x:=h.L7.1
end RC



namespace RC
open Go Go.Abs
structure Nk (S:Type) where
 steps:List S
 result:Int
inductive Step where
 | mk (op num Sx:Int) (args:List Int) (kids:List (Nk Step))
abbrev Block:=Nk Step
@[reducible] def Block.mk (steps:List Step) (result:Int):Block:=⟨steps,result⟩
def Step.op:Step→Int | .mk o _ _ _ _=>o
def Step.num:Step→Int | .mk _ n _ _ _=>n
def Step.Sx:Step→Int | .mk _ _ i _ _=>i
def Step.args:Step→List Int | .mk _ _ _ a _=>a
def Step.kids:Step→List Block | .mk _ _ _ _ k=>k
end RC

