import Derived.Test.YtobjlimoekffaaaAbsV

namespace RC
open Go Go.Abs
structure Cell where
 count : Int
 tag : Int
 fields : List Int
def eI (n : Int) : List AV := [.int .i64 n]
def eI_u8 (n : Int) : List AV := [.int .u8 n]
def eB (b : Bool) : List AV := [.bool b]
def eS {α : Type} (e : α → List AV) (l : List α) : List AV := [.sl (l.map e)]
def I64 (n : Int) : Prop := -9223372036854775808 ≤ n ∧ n ≤ 9223372036854775807
def U8 (n : Int) : Prop := 0 ≤ n ∧ n ≤ 255
def ListIn {α : Type} (good : α → Prop) (l : List α) : Prop := (∀ x ∈ l, good x) ∧ l.length ≤ 9223372036854775807
end RC



namespace RC
open Go Go.Abs
structure BlockOf (S : Type) where
 steps : List S
 result : Int
inductive Step where
 | mk (op num into : Int) (args : List Int) (kids : List (BlockOf Step))
abbrev Block := BlockOf Step
@[reducible] def Block.mk (steps : List Step) (result : Int) : Block := ⟨steps, result⟩
def Step.op : Step → Int | .mk o _ _ _ _ => o
def Step.num : Step → Int | .mk _ n _ _ _ => n
def Step.into : Step → Int | .mk _ _ i _ _ => i
def Step.args : Step → List Int | .mk _ _ _ a _ => a
def Step.kids : Step → List Block | .mk _ _ _ _ k => k
end RC

