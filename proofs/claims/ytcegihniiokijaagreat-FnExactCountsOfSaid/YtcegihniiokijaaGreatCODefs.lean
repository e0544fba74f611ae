import Derived.Test.YtcegihniiokijaaGreatGEncEToEncH
import Derived.Test.YtcegihniiokijaaGreatHADefs
import Derived.Test.YtcegihniiokijaaGreatIADefs
import Derived.Test.YtcegihniiokijaaGreatVSDefs
import Derived.Test.YtcegihniiokijaaGreatSADefs
import Derived.Test.YtcegihniiokijaaGreatCSDefs
import Derived.Test.YtcegihniiokijaaGreatIPDefs
namespace RC
def spec_countsIn_B_L2 (i6 : Int) (p0 : Block) (rec_spec_countsIn : Block → (List Int) → Option ((List Int))) : Nat → Int → (List Int) → Option ((List Int))
 | 0, _, _ => none
 | n + 1, k19, l20 =>
  Option.bind (Sh.get p0.steps i6) fun c25 =>
  if (decide (k19 < (Sh.len c25.kids))) = true then
   Option.bind (Sh.get c25.kids k19) fun c28 =>
   Option.bind (rec_spec_countsIn c28 l20) fun q29 =>
   spec_countsIn_B_L2 i6 p0 rec_spec_countsIn n (Sh.w (k19 + 1)) q29
  else
   some l20
def spec_countsIn_B_L1 (N : Nat) (p0 : Block) (rec_spec_countsIn : Block → (List Int) → Option ((List Int))) : Nat → Int → (List Int) → Option ((List Int))
 | 0, _, _ => none
 | n + 1, i6, l7 =>
  if (decide (i6 < (Sh.len p0.steps))) = true then
   Option.bind (
    Option.bind (Sh.get p0.steps i6) fun c31 =>
    Option.bind (spec_isCounting c31.op) fun q32 =>
    if q32 = true then
     Option.bind (Sh.get l7 (Sh.w (c31.op - 14))) fun c34 =>
     some (Sh.put l7 (Sh.w (c31.op - 14)) (Sh.w (c34 + 1)))
    else
     some l7
   ) fun l16 =>
   Option.bind (spec_countsIn_B_L2 i6 p0 rec_spec_countsIn N 0 l16) fun l21 =>
   spec_countsIn_B_L1 N p0 rec_spec_countsIn n (Sh.w (i6 + 1)) l21
  else
   some l7
def spec_countsIn_B (N : Nat) (rec_spec_countsIn : Block → (List Int) → Option ((List Int))) (p0 : Block) (p1 : (List Int)) : Option ((List Int)) :=
 Option.bind (spec_copyInts p1) fun q3 =>
 Option.bind (spec_countsIn_B_L1 N p0 rec_spec_countsIn N 0 q3) fun l8 =>
 some l8
def spec_countsIn_F (N : Nat) : Nat → Block → (List Int) → Option ((List Int))
 | 0, _, _ => none
 | n + 1, p0, p1 => spec_countsIn_B N (spec_countsIn_F N n) p0 p1
def spec_countsIn (N : Nat) (p0 : Block) (p1 : (List Int)) : Option ((List Int)) := spec_countsIn_F N N p0 p1
def spec_countsOf_L1 (N : Nat) (p0 : RNormal) : Nat → Int → (List Int) → Option ((List Int))
 | 0, _, _ => none
 | n + 1, i5, l6 =>
  if (decide (i5 < (Sh.len p0.routines))) = true then
   Option.bind (Sh.get p0.routines i5) fun c14 =>
   Option.bind (spec_countsIn N c14.body l6) fun q15 =>
   spec_countsOf_L1 N p0 n (Sh.w (i5 + 1)) q15
  else
   some l6
def spec_countsOf (N : Nat) (p0 : RNormal) : Option ((List Int)) :=
 Option.bind (spec_countsOf_L1 N p0 N 0 [(0 : Int), 0, 0, 0]) fun l7 =>
 some l7
def spec_CountsOf (N : Nat) (p0 : RNormal) : Option ((List Int)) :=
 Option.bind (spec_validNormal N p0) fun q4 =>
 if (!q4) = true then
  some []
 else
  Option.bind (spec_countsOf N p0) fun q10 =>
  some q10
def laws_toBlockS_2_L1 (p0 : (List Block)) (rec_laws_toBlock_2 : Block → Option (Block)) : Nat → Int → (List Block) → Option ((List Block))
 | 0, _, _ => none
 | n + 1, i6, l7 =>
  if (decide (i6 < (Sh.len p0))) = true then
   Option.bind (Sh.get p0 i6) fun c15 =>
   Option.bind (rec_laws_toBlock_2 c15) fun q16 =>
   Option.bind (Sh.get l7 i6) fun c17 =>
   laws_toBlockS_2_L1 p0 rec_laws_toBlock_2 n (Sh.w (i6 + 1)) (Sh.put l7 i6 q16)
  else
   some l7
def laws_toBlockS_2 (N : Nat) (rec_laws_toBlock_2 : Block → Option (Block)) (p0 : (List Block)) : Option ((List Block)) :=
 Option.bind (Sh.mk (Block.mk [] 0) (Sh.len p0) 32) fun l3 =>
 Option.bind (laws_toBlockS_2_L1 p0 rec_laws_toBlock_2 N 0 l3) fun l8 =>
 some l8
def laws_toStep_2 (N : Nat) (rec_laws_toBlock_2 : Block → Option (Block)) (p0 : Step) : Option (Step) :=
 Option.bind (laws_toIntS N p0.args) fun q7 =>
 Option.bind (laws_toBlockS_2 N rec_laws_toBlock_2 p0.kids) fun q9 =>
 some (Step.mk p0.op p0.num p0.into q7 q9)
def laws_toStepS_2_L1 (N : Nat) (p0 : (List Step)) (rec_laws_toBlock_2 : Block → Option (Block)) : Nat → Int → (List Step) → Option ((List Step))
 | 0, _, _ => none
 | n + 1, i6, l7 =>
  if (decide (i6 < (Sh.len p0))) = true then
   Option.bind (Sh.get p0 i6) fun c15 =>
   Option.bind (laws_toStep_2 N rec_laws_toBlock_2 c15) fun q16 =>
   Option.bind (Sh.get l7 i6) fun c17 =>
   laws_toStepS_2_L1 N p0 rec_laws_toBlock_2 n (Sh.w (i6 + 1)) (Sh.put l7 i6 q16)
  else
   some l7
def laws_toStepS_2 (N : Nat) (rec_laws_toBlock_2 : Block → Option (Block)) (p0 : (List Step)) : Option ((List Step)) :=
 Option.bind (Sh.mk (Step.mk 0 0 0 [] []) (Sh.len p0) 72) fun l3 =>
 Option.bind (laws_toStepS_2_L1 N p0 rec_laws_toBlock_2 N 0 l3) fun l8 =>
 some l8
def laws_toBlock_2_B (N : Nat) (rec_laws_toBlock_2 : Block → Option (Block)) (p0 : Block) : Option (Block) :=
 Option.bind (laws_toStepS_2 N rec_laws_toBlock_2 p0.steps) fun q4 =>
 some (Block.mk q4 p0.result)
def laws_toBlock_2_F (N : Nat) : Nat → Block → Option (Block)
 | 0, _ => none
 | n + 1, p0 => laws_toBlock_2_B N (laws_toBlock_2_F N n) p0
def laws_toBlock_2 (N : Nat) (p0 : Block) : Option (Block) := laws_toBlock_2_F N N p0
def laws_toRoutine_2 (N : Nat) (p0 : RRoutine) : Option (RRoutine) :=
 Option.bind (laws_toIntS N p0.params) fun q4 =>
 Option.bind (laws_toIntS N p0.lent) fun q6 =>
 Option.bind (laws_toBlock_2 N p0.body) fun q9 =>
 some (RRoutine.mk q4 q6 p0.result q9)
def laws_toRoutineS_2_L1 (N : Nat) (p0 : (List RRoutine)) : Nat → Int → (List RRoutine) → Option ((List RRoutine))
 | 0, _, _ => none
 | n + 1, i6, l7 =>
  if (decide (i6 < (Sh.len p0))) = true then
   Option.bind (Sh.get p0 i6) fun c15 =>
   Option.bind (laws_toRoutine_2 N c15) fun q16 =>
   Option.bind (Sh.get l7 i6) fun c17 =>
   laws_toRoutineS_2_L1 N p0 n (Sh.w (i6 + 1)) (Sh.put l7 i6 q16)
  else
   some l7
def laws_toRoutineS_2 (N : Nat) (p0 : (List RRoutine)) : Option ((List RRoutine)) :=
 Option.bind (Sh.mk (RRoutine.mk [] [] 0 (Block.mk [] 0)) (Sh.len p0) 88) fun l3 =>
 Option.bind (laws_toRoutineS_2_L1 N p0 N 0 l3) fun l8 =>
 some l8
def laws_toNormal_2 (N : Nat) (p0 : RNormal) : Option (RNormal) :=
 Option.bind (laws_toDeclS N p0.decls) fun q4 =>
 Option.bind (laws_toRoutineS_2 N p0.routines) fun q6 =>
 some (RNormal.mk q4 q6)
def impl_CountsOf_1 (s1 : (List Int)) (p0 : Step) : Option ((List Int)) :=
 Option.bind (impl_isCounting p0.op) fun q3 =>
 if q3 = true then
  Option.bind (Sh.get s1 (Sh.w (p0.op - 14))) fun c5 =>
  some (Sh.put s1 (Sh.w (p0.op - 14)) (Sh.w (c5 + 1)))
 else
  some s1
def impl_visitSteps_2_B_L2 (c13 : Step) (rec_impl_visitSteps_2 : (List Int) → Block → Option ((List Int))) : Nat → Int → (List Int) → Option ((List Int))
 | 0, _, _ => none
 | n + 1, t17, l18 =>
  if (decide (t17 < (Sh.len c13.kids))) = true then
   Option.bind (Sh.get c13.kids t17) fun c26 =>
   Option.bind (rec_impl_visitSteps_2 l18 c26) fun q27 =>
   impl_visitSteps_2_B_L2 c13 rec_impl_visitSteps_2 n (Sh.w (t17 + 1)) q27
  else
   some l18
def impl_visitSteps_2_B_L1 (N : Nat) (p0 : Block) (rec_impl_visitSteps_2 : (List Int) → Block → Option ((List Int))) : Nat → Int → (List Int) → Option ((List Int))
 | 0, _, _ => none
 | n + 1, t4, l5 =>
  if (decide (t4 < (Sh.len p0.steps))) = true then
   Option.bind (Sh.get p0.steps t4) fun c13 =>
   Option.bind (impl_CountsOf_1 l5 c13) fun q15 =>
   Option.bind (impl_visitSteps_2_B_L2 c13 rec_impl_visitSteps_2 N 0 q15) fun l19 =>
   impl_visitSteps_2_B_L1 N p0 rec_impl_visitSteps_2 n (Sh.w (t4 + 1)) l19
  else
   some l5
def impl_visitSteps_2_B (N : Nat) (rec_impl_visitSteps_2 : (List Int) → Block → Option ((List Int))) (s1 : (List Int)) (p0 : Block) : Option ((List Int)) :=
 Option.bind (impl_visitSteps_2_B_L1 N p0 rec_impl_visitSteps_2 N 0 s1) fun l6 =>
 some l6
def impl_visitSteps_2_F (N : Nat) : Nat → (List Int) → Block → Option ((List Int))
 | 0, _, _ => none
 | n + 1, s1, p0 => impl_visitSteps_2_B N (impl_visitSteps_2_F N n) s1 p0
def impl_visitSteps_2 (N : Nat) (s1 : (List Int)) (p0 : Block) : Option ((List Int)) := impl_visitSteps_2_F N N s1 p0
def impl_CountsOf_L1 (N : Nat) (p0 : RNormal) : Nat → Int → (List Int) → Option ((List Int))
 | 0, _, _ => none
 | n + 1, t13, l14 =>
  if (decide (t13 < (Sh.len p0.routines))) = true then
   Option.bind (Sh.get p0.routines t13) fun c23 =>
   Option.bind (impl_visitSteps_2 N l14 c23.body) fun q24 =>
   impl_CountsOf_L1 N p0 n (Sh.w (t13 + 1)) q24
  else
   some l14
def impl_CountsOf (N : Nat) (p0 : RNormal) : Option ((List Int)) :=
 Option.bind (impl_ValidNormal N p0) fun q4 =>
 if (!q4) = true then
  some []
 else
  Option.bind (Sh.mk 0 4 8) fun l10 =>
  Option.bind (impl_CountsOf_L1 N p0 N 0 l10) fun l15 =>
  some l15
def laws_markIntS_L1  : Nat → Int → Int → (List Int) → Option (Int × (List Int))
 | 0, _, _, _ => none
 | n + 1, k4, i5, l6 =>
  if (decide (i5 < (Sh.len l6))) = true then
   Option.bind (Sh.get l6 i5) fun c16 =>
   laws_markIntS_L1  n (Sh.w (k4 + 1)) (Sh.w (i5 + 1)) (Sh.put l6 i5 k4)
  else
   some (k4, l6)
def laws_markIntS (N : Nat) (s0 : (List Int)) (p1 : Int) : Option (Int × (List Int)) :=
 Option.bind (laws_markIntS_L1  N p1 0 s0) fun (k7, l8) =>
 some (k7, l8)
def laws_markConS_L1 (N : Nat) : Nat → Int → Int → (List RCon) → Option (Int × (List RCon))
 | 0, _, _, _ => none
 | n + 1, k4, i5, l6 =>
  if (decide (i5 < (Sh.len l6))) = true then
   Option.bind (Sh.get l6 i5) fun c15 =>
   Option.bind (laws_markIntS N c15.fields k4) fun q16 =>
   laws_markConS_L1 N n q16.1 (Sh.w (i5 + 1)) (Sh.put l6 i5 (RCon.mk q16.2))
  else
   some (k4, l6)
def laws_markConS (N : Nat) (s0 : (List RCon)) (p1 : Int) : Option (Int × (List RCon)) :=
 Option.bind (laws_markConS_L1 N N p1 0 s0) fun (k7, l8) =>
 some (k7, l8)
def laws_markDeclS_L1 (N : Nat) : Nat → Int → Int → (List RDecl) → Option (Int × (List RDecl))
 | 0, _, _, _ => none
 | n + 1, k4, i5, l6 =>
  if (decide (i5 < (Sh.len l6))) = true then
   Option.bind (Sh.get l6 i5) fun c16 =>
   Option.bind (Sh.get (Sh.put l6 i5 (RDecl.mk k4 c16.to c16.cons)) i5) fun c19 =>
   Option.bind (Sh.get (Sh.put (Sh.put l6 i5 (RDecl.mk k4 c16.to c16.cons)) i5 (RDecl.mk c19.from_ (Sh.w (k4 + 1)) c19.cons)) i5) fun c21 =>
   Option.bind (laws_markConS N c21.cons (Sh.w ((Sh.w (k4 + 1)) + 1))) fun q22 =>
   laws_markDeclS_L1 N n q22.1 (Sh.w (i5 + 1)) (Sh.put (Sh.put (Sh.put l6 i5 (RDecl.mk k4 c16.to c16.cons)) i5 (RDecl.mk c19.from_ (Sh.w (k4 + 1)) c19.cons)) i5 (RDecl.mk c21.from_ c21.to q22.2))
  else
   some (k4, l6)
def laws_markDeclS (N : Nat) (s0 : (List RDecl)) (p1 : Int) : Option (Int × (List RDecl)) :=
 Option.bind (laws_markDeclS_L1 N N p1 0 s0) fun (k7, l8) =>
 some (k7, l8)
def laws_markBlockS_L1 (rec_laws_markStepS : (List Step) → Int → Option (Int × (List Step))) : Nat → Int → Int → (List Block) → Option (Int × (List Block))
 | 0, _, _, _ => none
 | n + 1, k4, i5, l6 =>
  if (decide (i5 < (Sh.len l6))) = true then
   Option.bind (Sh.get l6 i5) fun c16 =>
   Option.bind (rec_laws_markStepS c16.steps k4) fun q17 =>
   Option.bind (Sh.get (Sh.put l6 i5 (Block.mk q17.2 c16.result)) i5) fun c20 =>
   laws_markBlockS_L1 rec_laws_markStepS n (Sh.w (q17.1 + 1)) (Sh.w (i5 + 1)) (Sh.put (Sh.put l6 i5 (Block.mk q17.2 c16.result)) i5 (Block.mk c20.steps q17.1))
  else
   some (k4, l6)
def laws_markBlockS (N : Nat) (rec_laws_markStepS : (List Step) → Int → Option (Int × (List Step))) (s0 : (List Block)) (p1 : Int) : Option (Int × (List Block)) :=
 Option.bind (laws_markBlockS_L1 rec_laws_markStepS N p1 0 s0) fun (k7, l8) =>
 some (k7, l8)
def laws_markStepS_B_L1 (N : Nat) (rec_laws_markStepS : (List Step) → Int → Option (Int × (List Step))) : Nat → Int → Int → (List Step) → Option (Int × (List Step))
 | 0, _, _, _ => none
 | n + 1, k4, i5, l6 =>
  if (decide (i5 < (Sh.len l6))) = true then
   Option.bind (Sh.get l6 i5) fun c16 =>
   Option.bind (Sh.get (Sh.put l6 i5 (Step.mk k4 c16.num c16.into c16.args c16.kids)) i5) fun c19 =>
   Option.bind (Sh.get (Sh.put (Sh.put l6 i5 (Step.mk k4 c16.num c16.into c16.args c16.kids)) i5 (Step.mk c19.op (Sh.w (k4 + 1)) c19.into c19.args c19.kids)) i5) fun c22 =>
   Option.bind (Sh.get (Sh.put (Sh.put (Sh.put l6 i5 (Step.mk k4 c16.num c16.into c16.args c16.kids)) i5 (Step.mk c19.op (Sh.w (k4 + 1)) c19.into c19.args c19.kids)) i5 (Step.mk c22.op c22.num (Sh.w ((Sh.w (k4 + 1)) + 1)) c22.args c22.kids)) i5) fun c25 =>
   Option.bind (laws_markIntS N c25.args (Sh.w ((Sh.w ((Sh.w (k4 + 1)) + 1)) + 1))) fun q26 =>
   Option.bind (Sh.get (Sh.put (Sh.put (Sh.put (Sh.put l6 i5 (Step.mk k4 c16.num c16.into c16.args c16.kids)) i5 (Step.mk c19.op (Sh.w (k4 + 1)) c19.into c19.args c19.kids)) i5 (Step.mk c22.op c22.num (Sh.w ((Sh.w (k4 + 1)) + 1)) c22.args c22.kids)) i5 (Step.mk c25.op c25.num c25.into q26.2 c25.kids)) i5) fun c28 =>
   Option.bind (laws_markBlockS N rec_laws_markStepS c28.kids q26.1) fun q29 =>
   laws_markStepS_B_L1 N rec_laws_markStepS n q29.1 (Sh.w (i5 + 1)) (Sh.put (Sh.put (Sh.put (Sh.put (Sh.put l6 i5 (Step.mk k4 c16.num c16.into c16.args c16.kids)) i5 (Step.mk c19.op (Sh.w (k4 + 1)) c19.into c19.args c19.kids)) i5 (Step.mk c22.op c22.num (Sh.w ((Sh.w (k4 + 1)) + 1)) c22.args c22.kids)) i5 (Step.mk c25.op c25.num c25.into q26.2 c25.kids)) i5 (Step.mk c28.op c28.num c28.into c28.args q29.2))
  else
   some (k4, l6)
def laws_markStepS_B (N : Nat) (rec_laws_markStepS : (List Step) → Int → Option (Int × (List Step))) (s0 : (List Step)) (p1 : Int) : Option (Int × (List Step)) :=
 Option.bind (laws_markStepS_B_L1 N rec_laws_markStepS N p1 0 s0) fun (k7, l8) =>
 some (k7, l8)
def laws_markStepS_F (N : Nat) : Nat → (List Step) → Int → Option (Int × (List Step))
 | 0, _, _ => none
 | n + 1, s0, p1 => laws_markStepS_B N (laws_markStepS_F N n) s0 p1
def laws_markStepS (N : Nat) (s0 : (List Step)) (p1 : Int) : Option (Int × (List Step)) := laws_markStepS_F N N s0 p1
def laws_markRoutineS_L1 (N : Nat) : Nat → Int → Int → (List RRoutine) → Option (Int × (List RRoutine))
 | 0, _, _, _ => none
 | n + 1, k4, i5, l6 =>
  if (decide (i5 < (Sh.len l6))) = true then
   Option.bind (Sh.get l6 i5) fun c16 =>
   Option.bind (laws_markIntS N c16.params k4) fun q17 =>
   Option.bind (Sh.get (Sh.put l6 i5 (RRoutine.mk q17.2 c16.lent c16.result c16.body)) i5) fun c20 =>
   Option.bind (laws_markIntS N c20.lent q17.1) fun q21 =>
   Option.bind (Sh.get (Sh.put (Sh.put l6 i5 (RRoutine.mk q17.2 c16.lent c16.result c16.body)) i5 (RRoutine.mk c20.params q21.2 c20.result c20.body)) i5) fun c24 =>
   Option.bind (Sh.get (Sh.put (Sh.put (Sh.put l6 i5 (RRoutine.mk q17.2 c16.lent c16.result c16.body)) i5 (RRoutine.mk c20.params q21.2 c20.result c20.body)) i5 (RRoutine.mk c24.params c24.lent q21.1 c24.body)) i5) fun c27 =>
   Option.bind (laws_markStepS N c27.body.steps (Sh.w (q21.1 + 1))) fun q28 =>
   Option.bind (Sh.get (Sh.put (Sh.put (Sh.put (Sh.put l6 i5 (RRoutine.mk q17.2 c16.lent c16.result c16.body)) i5 (RRoutine.mk c20.params q21.2 c20.result c20.body)) i5 (RRoutine.mk c24.params c24.lent q21.1 c24.body)) i5 (RRoutine.mk c27.params c27.lent c27.result (Block.mk q28.2 c27.body.result))) i5) fun c31 =>
   laws_markRoutineS_L1 N n (Sh.w (q28.1 + 1)) (Sh.w (i5 + 1)) (Sh.put (Sh.put (Sh.put (Sh.put (Sh.put l6 i5 (RRoutine.mk q17.2 c16.lent c16.result c16.body)) i5 (RRoutine.mk c20.params q21.2 c20.result c20.body)) i5 (RRoutine.mk c24.params c24.lent q21.1 c24.body)) i5 (RRoutine.mk c27.params c27.lent c27.result (Block.mk q28.2 c27.body.result))) i5 (RRoutine.mk c31.params c31.lent c31.result (Block.mk c31.body.steps q28.1)))
  else
   some (k4, l6)
def laws_markRoutineS (N : Nat) (s0 : (List RRoutine)) (p1 : Int) : Option (Int × (List RRoutine)) :=
 Option.bind (laws_markRoutineS_L1 N N p1 0 s0) fun (k7, l8) =>
 some (k7, l8)
def laws_markNormal (N : Nat) (s0 : (List RDecl)) (s1 : (List RRoutine)) (p1 : Int) : Option (Int × (List RDecl) × (List RRoutine)) :=
 Option.bind (laws_markDeclS N s0 p1) fun q3 =>
 Option.bind (laws_markRoutineS N s1 q3.1) fun q6 =>
 some (q6.1, q3.2, q6.2)
def laws_heldIntS_L1 (p0 : (List Int)) : Nat → Int → Int → Option ((Int) ⊕ (Int))
 | 0, _, _ => none
 | n + 1, k4, i5 =>
  if (decide (i5 < (Sh.len p0))) = true then
   Option.bind (Sh.get p0 i5) fun c15 =>
   if (!decide (c15 = k4)) = true then
    some (Sum.inl (-1))
   else
    laws_heldIntS_L1 p0 n (Sh.w (k4 + 1)) (Sh.w (i5 + 1))
  else
   some (Sum.inr k4)
def laws_heldIntS (N : Nat) (p0 : (List Int)) (p1 : Int) : Option (Int) :=
 Sh.cont (laws_heldIntS_L1 p0 N p1 0) (id) fun k6 =>
 some k6
def laws_FnExactCountsOf (N : Nat) (p0 : RNormal) : Option (Bool) :=
 Option.bind (laws_szNormal N p0 1048576) fun q4 =>
 if (decide (q4 < 0)) = true then
  some true
 else
  Option.bind (laws_toNormal N p0) fun q10 =>
  Option.bind (spec_CountsOf N q10) fun q11 =>
  Option.bind (laws_toNormal_2 N p0) fun q13 =>
  Option.bind (impl_CountsOf N q13) fun q15 =>
  Option.bind (laws_eqIntS N q15 q11) fun q18 =>
  if (!q18) = true then
   some false
  else
   Option.bind (laws_toNormal N p0) fun q25 =>
   Option.bind (laws_eqNormal N q13 q25) fun q26 =>
   if (!q26) = true then
    some false
   else
    Option.bind (laws_markNormal N q13.decls q13.routines 1) fun q33 =>
    Option.bind (
     if (decide (q33.1 < 0)) = true then
      some true
     else
      Option.bind (laws_eqIntS N q15 q11) fun q84 =>
      some (!q84)
    ) fun t38 =>
    if t38 = true then
     some false
    else
     Option.bind (laws_markIntS N q15 1) fun q44 =>
     Option.bind (laws_heldIntS N q44.2 1) fun q48 =>
     if (decide (q48 < 0)) = true then
      some false
     else
     if (!decide (q48 = q44.1)) = true then
      some false
     else
      Option.bind (laws_toNormal N p0) fun q60 =>
      Option.bind (impl_CountsOf N q60) fun q61 =>
      Option.bind (laws_eqIntS N q61 q11) fun q64 =>
      if (!q64) = true then
       some false
      else
       Option.bind (laws_heldIntS N q44.2 1) fun q71 =>
       if (decide (q71 < 0)) = true then
        some false
       else
       if (!decide (q71 = q44.1)) = true then
        some false
       else
        some true
end RC

