import Derived.Test.YtobjlimoekffaaaGreatAbsV

namespace RC
open Go Go.Abs
structure Cell where
 count:Int
 tag:Int
 fields:List Int
def eI (n:Int):List AV:=[.int .i64 n]
def Wx (n:Int):List AV:=[.int .u8 n]
def eB (b:Bool):List AV:=[.bool b]
def eS {α:Type} (e:α→List AV) (l:List α):List AV:=[.sl (l.map e)]
def Aj (c:Cell):List AV:=[.int .i64 c.count,.int .i64 c.tag,.sl (c.fields.map eI)]
def E3 (n:Int):Prop:=-9223372036854775808≤n∧n≤9223372036854775807
def U8 (n:Int):Prop:=0≤n∧n≤255
def Cb {α:Type} (good:α→Prop) (l:List α):Prop:=(∀x∈l,good x)∧l.length≤9223372036854775807
structure JI (c:Cell):Prop where
 count:E3 c.count
 tag:E3 c.tag
 PD:Cb E3 c.fields
theorem JI.fields {c:Cell} (h:JI c) :∀x∈c.fields,E3 x:=h.PD.1
theorem JI.len {c:Cell} (h:JI c):c.fields.length≤9223372036854775807:=h.PD.2
end RC



namespace RC
open Go Go.Abs
structure Vj (S:Type) where
 steps:List S
 result:Int
inductive Step where
 | mk (op num BY:Int) (args:List Int) (kids:List (Vj Step))
abbrev Block:=Vj Step
@[reducible] def Block.mk (steps:List Step) (result:Int):Block:=⟨steps,result⟩
def Step.op:Step→Int | .mk o _ _ _ _=>o
def Step.num:Step→Int | .mk _ n _ _ _=>n
def Step.BY:Step→Int | .mk _ _ i _ _=>i
def Step.args:Step→List Int | .mk _ _ _ a _=>a
def Step.kids:Step→List Block | .mk _ _ _ _ k=>k
end RC

