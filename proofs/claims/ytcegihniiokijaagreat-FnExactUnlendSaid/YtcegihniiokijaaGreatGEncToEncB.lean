import Derived.Test.YtcegihniiokijaaGreatAbsV

namespace RC
open Go Go.Abs
structure Cell where
 count:Int
 tag:Int
 fields:List Int
def eI (n:Int):List AV:=[.int .i64 n]
def V2 (n:Int):List AV:=[.int .u8 n]
def eB (b:Bool):List AV:=[.bool b]
def eS {α:Type} (e:α→List AV) (l:List α):List AV:=[.sl (l.map e)]
def IF (n:Int):Prop:=-9223372036854775808≤n∧n≤9223372036854775807
def U8 (n:Int):Prop:=0≤n∧n≤255
def D1 {α:Type} (good:α→Prop) (l:List α):Prop:=(∀x∈l,good x)∧l.length≤9223372036854775807
structure Tu (c:Cell):Prop where
 count:IF c.count
 tag:IF c.tag
 MP:D1 IF c.fields
theorem Tu.len {c:Cell} (h:Tu c):c.fields.length≤9223372036854775807:=h.MP.2
end RC



namespace RC
open Go Go.Abs
structure E8 (S:Type) where
 steps:List S
 result:Int
inductive Step where
 | mk (op num Ax:Int) (args:List Int) (kids:List (E8 Step))
abbrev Block:=E8 Step
@[reducible] def Block.mk (steps:List Step) (result:Int):Block:=⟨steps,result⟩
def Step.op:Step→Int | .mk o _ _ _ _=>o
def Step.num:Step→Int | .mk _ n _ _ _=>n
def Step.Ax:Step→Int | .mk _ _ i _ _=>i
def Step.args:Step→List Int | .mk _ _ _ a _=>a
def Step.kids:Step→List Block | .mk _ _ _ _ k=>k
theorem KL (s:Step):s=Step.mk s.op s.num s.Ax s.args s.kids:=by cases s;rfl
noncomputable def Al (s:Step):List AV:=
 Step.rec (motive_1:=fun _=>List AV) (motive_2:=fun _=>List (List AV)) (motive_3:=fun _=>List AV) (motive_4:=fun _=>List (List AV))
  (fun o n i a _ ks=>[.int .i64 o,.int .i64 n,.int .i64 i,.sl (a.map eI),.sl ks])
  [] (fun _ _ b bs=>b :: bs) (fun _ r ss=>[.sl ss,.int .i64 r]) [] (fun _ _ s ss=>s :: ss) s
noncomputable def A2 (b:Block):List AV:=[.sl (b.steps.map Al),.int .i64 b.result]
theorem U5 (ks:List Block) :
  Step.rec_1 (motive_1:=fun _=>List AV) (motive_2:=fun _=>List (List AV)) (motive_3:=fun _=>List AV) (motive_4:=fun _=>List (List AV))
  (fun o n i a _ ks=>[.int .i64 o,.int .i64 n,.int .i64 i,.sl (a.map eI),.sl ks])
  [] (fun _ _ b bs=>b :: bs) (fun _ r ss=>[.sl ss,.int .i64 r]) [] (fun _ _ s ss=>s :: ss) ks=ks.map A2:=by
 have key :∀ss:List Step,Step.rec_3 (motive_1:=fun _=>List AV) (motive_2:=fun _=>List (List AV)) (motive_3:=fun _=>List AV) (motive_4:=fun _=>List (List AV))
  (fun o n i a _ ks=>[.int .i64 o,.int .i64 n,.int .i64 i,.sl (a.map eI),.sl ks])
  [] (fun _ _ b bs=>b :: bs) (fun _ r ss=>[.sl ss,.int .i64 r]) [] (fun _ _ s ss=>s :: ss) ss=ss.map Al:=by
  intro ss
  induction ss with
  | nil=>rfl
  | cons s ss ih=>exact congrArg (Al s :: ·) ih
 induction ks with
 | nil=>rfl
 | cons b ks ih=>
  obtain⟨ss,r⟩:=b
  exact (congrArg (· :: _) (congrArg (fun x=>[AV.sl x,AV.int .i64 r]) (key ss))).trans (congrArg (A2 ⟨ss,r⟩ :: ·) ih)
theorem Bw (s:Step):Al s=[.int .i64 s.op,.int .i64 s.num,.int .i64 s.Ax,.sl (s.args.map eI),.sl (s.kids.map A2)]:=by
 obtain⟨o,n,i,a,k⟩:=s
 exact congrArg (fun x=>[AV.int .i64 o,.int .i64 n,.int .i64 i,.sl (a.map eI),.sl x]) (U5 k)
theorem KJ (s:Step):(Al s).all simple=true:=by rw[Bw];rfl
theorem Vx (s:Step):(Al s).length=5:=by rw[Bw];rfl
end RC

