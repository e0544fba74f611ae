import Derived.Test.YtcpedchmkhlpnaaAbsV

namespace RC
open Go Go.Abs
structure Cell where
 count : Int
 tag : Int
 fields : List Int
def eI (n : Int) : List AV := [.int .i64 n]
def eI_u8 (n : Int) : List AV := [.int .u8 n]
def eB (b : Bool) : List AV := [.bool b]
def eS {α : Type} (e : α → List AV) (l : List α) : List AV := [.sl (l.map e)]
def I64 (n : Int) : Prop := -9223372036854775808 ≤ n ∧ n ≤ 9223372036854775807
def U8 (n : Int) : Prop := 0 ≤ n ∧ n ≤ 255
def ListIn {α : Type} (good : α → Prop) (l : List α) : Prop := (∀ x ∈ l, good x) ∧ l.length ≤ 9223372036854775807
structure CellIn (c : Cell) : Prop where
 count : I64 c.count
 tag : I64 c.tag
 flds : ListIn I64 c.fields
theorem CellIn.len {c : Cell} (h : CellIn c) : c.fields.length ≤ 9223372036854775807 := h.flds.2
end RC



namespace RC
open Go Go.Abs
structure BlockOf (S : Type) where
 steps : List S
 result : Int
inductive Step where
 | mk (op num into : Int) (args : List Int) (kids : List (BlockOf Step))
abbrev Block := BlockOf Step
@[reducible] def Block.mk (steps : List Step) (result : Int) : Block := ⟨steps, result⟩
def Step.op : Step → Int | .mk o _ _ _ _ => o
def Step.num : Step → Int | .mk _ n _ _ _ => n
def Step.into : Step → Int | .mk _ _ i _ _ => i
def Step.args : Step → List Int | .mk _ _ _ a _ => a
def Step.kids : Step → List Block | .mk _ _ _ _ k => k
theorem Step.eta (s : Step) : s = Step.mk s.op s.num s.into s.args s.kids := by cases s; rfl
noncomputable def eStep (s : Step) : List AV :=
 Step.rec (motive_1 := fun _ => List AV) (motive_2 := fun _ => List (List AV)) (motive_3 := fun _ => List AV) (motive_4 := fun _ => List (List AV))
  (fun o n i a _ ks => [.int .i64 o, .int .i64 n, .int .i64 i, .sl (a.map eI), .sl ks])
  [] (fun _ _ b bs => b :: bs) (fun _ r ss => [.sl ss, .int .i64 r]) [] (fun _ _ s ss => s :: ss) s
noncomputable def eBlock (b : Block) : List AV := [.sl (b.steps.map eStep), .int .i64 b.result]
theorem eStep_kids (ks : List Block) :
  Step.rec_1 (motive_1 := fun _ => List AV) (motive_2 := fun _ => List (List AV)) (motive_3 := fun _ => List AV) (motive_4 := fun _ => List (List AV))
  (fun o n i a _ ks => [.int .i64 o, .int .i64 n, .int .i64 i, .sl (a.map eI), .sl ks])
  [] (fun _ _ b bs => b :: bs) (fun _ r ss => [.sl ss, .int .i64 r]) [] (fun _ _ s ss => s :: ss) ks = ks.map eBlock := by
 have key : ∀ ss : List Step, Step.rec_3 (motive_1 := fun _ => List AV) (motive_2 := fun _ => List (List AV)) (motive_3 := fun _ => List AV) (motive_4 := fun _ => List (List AV))
  (fun o n i a _ ks => [.int .i64 o, .int .i64 n, .int .i64 i, .sl (a.map eI), .sl ks])
  [] (fun _ _ b bs => b :: bs) (fun _ r ss => [.sl ss, .int .i64 r]) [] (fun _ _ s ss => s :: ss) ss = ss.map eStep := by
  intro ss
  induction ss with
  | nil => rfl
  | cons s ss ih => exact congrArg (eStep s :: ·) ih
 induction ks with
 | nil => rfl
 | cons b ks ih =>
  obtain ⟨ss, r⟩ := b
  exact (congrArg (· :: _) (congrArg (fun x => [AV.sl x, AV.int .i64 r]) (key ss))).trans (congrArg (eBlock ⟨ss, r⟩ :: ·) ih)
theorem eStep_eq (s : Step) : eStep s = [.int .i64 s.op, .int .i64 s.num, .int .i64 s.into, .sl (s.args.map eI), .sl (s.kids.map eBlock)] := by
 obtain ⟨o, n, i, a, k⟩ := s
 exact congrArg (fun x => [AV.int .i64 o, .int .i64 n, .int .i64 i, .sl (a.map eI), .sl x]) (eStep_kids k)
theorem eStep_pure (s : Step) : (eStep s).all simple = true := by rw [eStep_eq]; rfl
theorem eStep_len (s : Step) : (eStep s).length = 5 := by rw [eStep_eq]; rfl
end RC

