import Derived.Test.YtobjlimoekffaaaGreatAbsV

namespace RC
open Go Go.Abs
structure Cell where
 count:Int
 tag:Int
 fields:List Int
def eI (n:Int):List AV:=[.int .i64 n]
def Vk (n:Int):List AV:=[.int .u8 n]
def eB (b:Bool):List AV:=[.bool b]
def eS {α:Type} (e:α→List AV) (l:List α):List AV:=[.sl (l.map e)]
def Ak (c:Cell):List AV:=[.int .i64 c.count,.int .i64 c.tag,.sl (c.fields.map eI)]
def Ez (n:Int):Prop:=-9223372036854775808≤n∧n≤9223372036854775807
def U8 (n:Int):Prop:=0≤n∧n≤255
def Cb {α:Type} (good:α→Prop) (l:List α):Prop:=(∀x∈l,good x)∧l.length≤9223372036854775807
structure JA (c:Cell):Prop where
 count:Ez c.count
 tag:Ez c.tag
 Og:Cb Ez c.fields
theorem JA.fields {c:Cell} (h:JA c) :∀x∈c.fields,Ez x:=h.Og.1
theorem JA.len {c:Cell} (h:JA c):c.fields.length≤9223372036854775807:=h.Og.2
end RC



namespace RC
open Go Go.Abs
structure VY (S:Type) where
 steps:List S
 result:Int
inductive Step where
 | mk (op num BX:Int) (args:List Int) (kids:List (VY Step))
abbrev Block:=VY Step
@[reducible] def Block.mk (steps:List Step) (result:Int):Block:=⟨steps,result⟩
def Step.op:Step→Int | .mk o _ _ _ _=>o
def Step.num:Step→Int | .mk _ n _ _ _=>n
def Step.BX:Step→Int | .mk _ _ i _ _=>i
def Step.args:Step→List Int | .mk _ _ _ a _=>a
def Step.kids:Step→List Block | .mk _ _ _ _ k=>k
end RC

