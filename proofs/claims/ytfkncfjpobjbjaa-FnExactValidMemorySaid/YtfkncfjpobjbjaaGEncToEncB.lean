import Derived.Test.YtfkncfjpobjbjaaAbsV
set_option linter.all false
namespace RC
open Go Go.Abs
structure Cell where
 count:Int
 tag:Int
 fields:List Int
def eI (n:Int):List AV:=[.int .i64 n]
def Mk (n:Int):List AV:=[.int .u8 n]
def eB (b:Bool):List AV:=[.bool b]
def eS {α:Type}(e:α->List AV)(l:List α):List AV:=[.sl (l.map e)]
def AI (c:Cell):List AV:=[.int .i64 c.count,.int .i64 c.tag,.sl (c.fields.map eI)]
def Bl (n:Int):Prop:=-9223372036854775808<=n/\n<=9223372036854775807
def U8 (n:Int):Prop:=0<=n/\n<=255
def Fa {α:Type}(C4:α->Prop)(l:List α):Prop:=(∀x∈l,C4 x)/\l.length<=9223372036854775807
structure FY (c:Cell):Prop where
 count:Bl c.count
 tag:Bl c.tag
 CH:Fa Bl c.fields
theorem FY.fields {c:Cell}(h:FY c):∀x∈c.fields,Bl x:=h.CH.1
theorem FY.len {c:Cell}(h:FY c):c.fields.length<=9223372036854775807:=h.CH.2
end RC
namespace RC
open Go Go.Abs
structure MG (S:Type) where
 steps:List S
 result:Int
inductive Step where
 | mk (op num Q0:Int) (args:List Int) (kids:List (MG Step))
abbrev Block:=MG Step
@[reducible] def Block.mk (steps:List Step)(result:Int):Block:=⟨steps,result⟩
def Step.op:Step->Int|.mk o _ _ _ _=>o
def Step.num:Step->Int|.mk _ n _ _ _=>n
def Step.Q0:Step->Int|.mk _ _ i _ _=>i
def Step.args:Step->List Int|.mk _ _ _ a _=>a
def Step.kids:Step->List Block|.mk _ _ _ _ k=>k
end RC
