import Derived.Test.YtpahalfiiahddaaAbsV

namespace RC
open Go Go.Abs
structure Cell where
 count:Int
 tag:Int
 fields:List Int
def eI (n:Int):List AV:=[.int .i64 n]
def Cr (n:Int):List AV:=[.int .u8 n]
def eB (b:Bool):List AV:=[.bool b]
def eS {α:Type} (e:α→List AV) (l:List α):List AV:=[.sl (l.map e)]
def Ij (n:Int):Prop:=-9223372036854775808≤n∧n≤9223372036854775807
def U8 (n:Int):Prop:=0≤n∧n≤255
def Hi {α:Type} (QY:α→Prop) (l:List α):Prop:=(∀x∈l,QY x)∧l.length≤9223372036854775807
end RC



namespace RC
open Go Go.Abs
structure IH (S:Type) where
 steps:List S
 result:Int
inductive Step where
 | mk (op num XN:Int) (args:List Int) (kids:List (IH Step))
abbrev Block:=IH Step
@[reducible] def Block.mk (steps:List Step) (result:Int):Block:=⟨steps,result⟩
def Step.op:Step→Int | .mk o _ _ _ _=>o
def Step.num:Step→Int | .mk _ n _ _ _=>n
def Step.XN:Step→Int | .mk _ _ i _ _=>i
def Step.args:Step→List Int | .mk _ _ _ a _=>a
def Step.kids:Step→List Block | .mk _ _ _ _ k=>k
end RC

