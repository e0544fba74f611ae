import Derived.Test.YtfkncfjpobjbjaaAbsV
set_option linter.all false
namespace RC
open Go Go.Abs
structure Cell where
 count:Int
 tag:Int
 fields:List Int
def eI (n:Int):List AV:=[.int .i64 n]
def Mw (n:Int):List AV:=[.int .u8 n]
def eB (b:Bool):List AV:=[.bool b]
def eS {α:Type}(e:α->List AV)(l:List α):List AV:=[.sl (l.map e)]
def AI (c:Cell):List AV:=[.int .i64 c.count,.int .i64 c.tag,.sl (c.fields.map eI)]
def Bh (n:Int):Prop:=-9223372036854775808<=n/\n<=9223372036854775807
def U8 (n:Int):Prop:=0<=n/\n<=255
def Fv {α:Type}(Cf:α->Prop)(l:List α):Prop:=(∀x∈l,Cf x)/\l.length<=9223372036854775807
structure Fl (c:Cell):Prop where
 count:Bh c.count
 tag:Bh c.tag
 CJ:Fv Bh c.fields
theorem Fl.fields {c:Cell}(h:Fl c):∀x∈c.fields,Bh x:=h.CJ.1
theorem Fl.len {c:Cell}(h:Fl c):c.fields.length<=9223372036854775807:=h.CJ.2
end RC
namespace RC
open Go Go.Abs
structure Mf (S:Type) where
 steps:List S
 result:Int
inductive Step where
 | mk (op num Q9:Int) (args:List Int) (kids:List (Mf Step))
abbrev Block:=Mf Step
@[reducible] def Block.mk (steps:List Step)(result:Int):Block:=⟨steps,result⟩
def Step.op:Step->Int|.mk o _ _ _ _=>o
def Step.num:Step->Int|.mk _ n _ _ _=>n
def Step.Q9:Step->Int|.mk _ _ i _ _=>i
def Step.args:Step->List Int|.mk _ _ _ a _=>a
def Step.kids:Step->List Block|.mk _ _ _ _ k=>k
end RC
