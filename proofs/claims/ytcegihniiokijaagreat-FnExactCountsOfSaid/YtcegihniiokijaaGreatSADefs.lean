import Derived.Test.YtcegihniiokijaaGreatGEncToEncB
import Derived.Test.YtcegihniiokijaaGreatHADefs
namespace RC
def laws_szBlockS_L1 (p0 : (List Block)) (rec_laws_szBlock : Block → Int → Option (Int)) : Nat → Int → Int → Option ((Int) ⊕ (Int))
 | 0, _, _ => none
 | n + 1, left9, i10 =>
  if (decide (i10 < (Sh.len p0))) = true then
   Option.bind (Sh.get p0 i10) fun c19 =>
   Option.bind (rec_laws_szBlock c19 left9) fun q20 =>
   if (decide (q20 < 0)) = true then
    some (Sum.inl (-1))
   else
    laws_szBlockS_L1 p0 rec_laws_szBlock n q20 (Sh.w (i10 + 1))
  else
   some (Sum.inr left9)
def laws_szBlockS (N : Nat) (rec_laws_szBlock : Block → Int → Option (Int)) (p0 : (List Block)) (p1 : Int) : Option (Int) :=
 if (decide ((Sh.w (p1 - (Sh.len p0))) < 0)) = true then
  some (-1)
 else
  Sh.cont (laws_szBlockS_L1 p0 rec_laws_szBlock N (Sh.w (p1 - (Sh.len p0))) 0) (id) fun left11 =>
  some left11
def laws_szStep (N : Nat) (rec_laws_szBlock : Block → Int → Option (Int)) (p0 : Step) (p1 : Int) : Option (Int) :=
 Option.bind (laws_szIntS p0.args p1) fun q3 =>
 if (decide (q3 < 0)) = true then
  some (-1)
 else
  Option.bind (laws_szBlockS N rec_laws_szBlock p0.kids q3) fun q9 =>
  if (decide (q9 < 0)) = true then
   some (-1)
  else
   some q9
def laws_szStepS_L1 (N : Nat) (p0 : (List Step)) (rec_laws_szBlock : Block → Int → Option (Int)) : Nat → Int → Int → Option ((Int) ⊕ (Int))
 | 0, _, _ => none
 | n + 1, left9, i10 =>
  if (decide (i10 < (Sh.len p0))) = true then
   Option.bind (Sh.get p0 i10) fun c19 =>
   Option.bind (laws_szStep N rec_laws_szBlock c19 left9) fun q20 =>
   if (decide (q20 < 0)) = true then
    some (Sum.inl (-1))
   else
    laws_szStepS_L1 N p0 rec_laws_szBlock n q20 (Sh.w (i10 + 1))
  else
   some (Sum.inr left9)
def laws_szStepS (N : Nat) (rec_laws_szBlock : Block → Int → Option (Int)) (p0 : (List Step)) (p1 : Int) : Option (Int) :=
 if (decide ((Sh.w (p1 - (Sh.len p0))) < 0)) = true then
  some (-1)
 else
  Sh.cont (laws_szStepS_L1 N p0 rec_laws_szBlock N (Sh.w (p1 - (Sh.len p0))) 0) (id) fun left11 =>
  some left11
def laws_szBlock_B (N : Nat) (rec_laws_szBlock : Block → Int → Option (Int)) (p0 : Block) (p1 : Int) : Option (Int) :=
 Option.bind (laws_szStepS N rec_laws_szBlock p0.steps p1) fun q3 =>
 if (decide (q3 < 0)) = true then
  some (-1)
 else
  some q3
def laws_szBlock_F (N : Nat) : Nat → Block → Int → Option (Int)
 | 0, _, _ => none
 | n + 1, p0, p1 => laws_szBlock_B N (laws_szBlock_F N n) p0 p1
def laws_szBlock (N : Nat) (p0 : Block) (p1 : Int) : Option (Int) := laws_szBlock_F N N p0 p1
def laws_toBlockS_L1 (p0 : (List Block)) (rec_laws_toBlock : Block → Option (Block)) : Nat → Int → (List Block) → Option ((List Block))
 | 0, _, _ => none
 | n + 1, i6, l7 =>
  if (decide (i6 < (Sh.len p0))) = true then
   Option.bind (Sh.get p0 i6) fun c15 =>
   Option.bind (rec_laws_toBlock c15) fun q16 =>
   Option.bind (Sh.get l7 i6) fun c17 =>
   laws_toBlockS_L1 p0 rec_laws_toBlock n (Sh.w (i6 + 1)) (Sh.put l7 i6 q16)
  else
   some l7
def laws_toBlockS (N : Nat) (rec_laws_toBlock : Block → Option (Block)) (p0 : (List Block)) : Option ((List Block)) :=
 Option.bind (Sh.mk (Block.mk [] 0) (Sh.len p0) 32) fun l3 =>
 Option.bind (laws_toBlockS_L1 p0 rec_laws_toBlock N 0 l3) fun l8 =>
 some l8
def laws_toStep (N : Nat) (rec_laws_toBlock : Block → Option (Block)) (p0 : Step) : Option (Step) :=
 Option.bind (laws_toIntS N p0.args) fun q7 =>
 Option.bind (laws_toBlockS N rec_laws_toBlock p0.kids) fun q9 =>
 some (Step.mk p0.op p0.num p0.into q7 q9)
def laws_toStepS_L1 (N : Nat) (p0 : (List Step)) (rec_laws_toBlock : Block → Option (Block)) : Nat → Int → (List Step) → Option ((List Step))
 | 0, _, _ => none
 | n + 1, i6, l7 =>
  if (decide (i6 < (Sh.len p0))) = true then
   Option.bind (Sh.get p0 i6) fun c15 =>
   Option.bind (laws_toStep N rec_laws_toBlock c15) fun q16 =>
   Option.bind (Sh.get l7 i6) fun c17 =>
   laws_toStepS_L1 N p0 rec_laws_toBlock n (Sh.w (i6 + 1)) (Sh.put l7 i6 q16)
  else
   some l7
def laws_toStepS (N : Nat) (rec_laws_toBlock : Block → Option (Block)) (p0 : (List Step)) : Option ((List Step)) :=
 Option.bind (Sh.mk (Step.mk 0 0 0 [] []) (Sh.len p0) 72) fun l3 =>
 Option.bind (laws_toStepS_L1 N p0 rec_laws_toBlock N 0 l3) fun l8 =>
 some l8
def laws_toBlock_B (N : Nat) (rec_laws_toBlock : Block → Option (Block)) (p0 : Block) : Option (Block) :=
 Option.bind (laws_toStepS N rec_laws_toBlock p0.steps) fun q4 =>
 some (Block.mk q4 p0.result)
def laws_toBlock_F (N : Nat) : Nat → Block → Option (Block)
 | 0, _ => none
 | n + 1, p0 => laws_toBlock_B N (laws_toBlock_F N n) p0
def laws_toBlock (N : Nat) (p0 : Block) : Option (Block) := laws_toBlock_F N N p0
def spec_stepsLeft_B_L2 (i5 : Int) (p0 : Block) (rec_spec_stepsLeft : Block → Int → Option (Int)) : Nat → Int → Int → Option ((Int) ⊕ (Int))
 | 0, _, _ => none
 | n + 1, left19, k20 =>
  Option.bind (Sh.get p0.steps i5) fun c25 =>
  if (decide (k20 < (Sh.len c25.kids))) = true then
   Option.bind (Sh.get c25.kids k20) fun c29 =>
   Option.bind (rec_spec_stepsLeft c29 left19) fun q30 =>
   if (decide (q30 < 0)) = true then
    some (Sum.inl (-1))
   else
    spec_stepsLeft_B_L2 i5 p0 rec_spec_stepsLeft n q30 (Sh.w (k20 + 1))
  else
   some (Sum.inr left19)
def spec_stepsLeft_B_L1 (N : Nat) (p0 : Block) (rec_spec_stepsLeft : Block → Int → Option (Int)) : Nat → Int → Int → Option ((Int) ⊕ (Int))
 | 0, _, _ => none
 | n + 1, left4, i5 =>
  if (decide (i5 < (Sh.len p0.steps))) = true then
   if (decide (left4 < 1)) = true then
    some (Sum.inl (-1))
   else
    Sh.cont (spec_stepsLeft_B_L2 i5 p0 rec_spec_stepsLeft N (Sh.w (left4 - 1)) 0) (fun x => Sum.inl x) fun left21 =>
    spec_stepsLeft_B_L1 N p0 rec_spec_stepsLeft n left21 (Sh.w (i5 + 1))
  else
   some (Sum.inr left4)
def spec_stepsLeft_B (N : Nat) (rec_spec_stepsLeft : Block → Int → Option (Int)) (p0 : Block) (p1 : Int) : Option (Int) :=
 Sh.cont (spec_stepsLeft_B_L1 N p0 rec_spec_stepsLeft N p1 0) (id) fun left6 =>
 some left6
def spec_stepsLeft_F (N : Nat) : Nat → Block → Int → Option (Int)
 | 0, _, _ => none
 | n + 1, p0, p1 => spec_stepsLeft_B N (spec_stepsLeft_F N n) p0 p1
def spec_stepsLeft (N : Nat) (p0 : Block) (p1 : Int) : Option (Int) := spec_stepsLeft_F N N p0 p1
def spec_stepsOf (N : Nat) (p0 : Block) : Option (Int) :=
 Option.bind (spec_stepsLeft N p0 600) fun q3 =>
 if (decide (q3 < 0)) = true then
  some (-1)
 else
  some (Sh.w (600 - q3))
def spec_isCounting (p0 : Int) : Option (Bool) :=
 Option.bind (spec_inRange p0 14 17) fun q3 =>
 some q3
def impl_countSteps_B_L2 (c14 : Step) (rec_impl_countSteps : Int → Block → Option (Bool × Int)) : Nat → Int → Int → Option ((Bool × Int) ⊕ (Int))
 | 0, _, _ => none
 | n + 1, t21, f22 =>
  if (decide (t21 < (Sh.len c14.kids))) = true then
   Option.bind (Sh.get c14.kids t21) fun c30 =>
   Option.bind (rec_impl_countSteps f22 c30) fun q32 =>
   if (!q32.1) = true then
    some (Sum.inl (false, q32.2))
   else
    impl_countSteps_B_L2 c14 rec_impl_countSteps n (Sh.w (t21 + 1)) q32.2
  else
   some (Sum.inr f22)
def impl_countSteps_B_L1 (N : Nat) (p0 : Block) (rec_impl_countSteps : Int → Block → Option (Bool × Int)) : Nat → Int → Int → Option ((Bool × Int) ⊕ (Int))
 | 0, _, _ => none
 | n + 1, t4, f5 =>
  if (decide (t4 < (Sh.len p0.steps))) = true then
   Option.bind (Sh.get p0.steps t4) fun c14 =>
   if (decide (600 < (Sh.w (f5 + 1)))) = true then
    some (Sum.inl (false, Sh.w (f5 + 1)))
   else
    Sh.cont (impl_countSteps_B_L2 c14 rec_impl_countSteps N 0 (Sh.w (f5 + 1))) (fun x => Sum.inl x) fun f23 =>
    impl_countSteps_B_L1 N p0 rec_impl_countSteps n (Sh.w (t4 + 1)) f23
  else
   some (Sum.inr f5)
def impl_countSteps_B (N : Nat) (rec_impl_countSteps : Int → Block → Option (Bool × Int)) (s0_0 : Int) (p0 : Block) : Option (Bool × Int) :=
 Sh.cont (impl_countSteps_B_L1 N p0 rec_impl_countSteps N 0 s0_0) (id) fun f6 =>
 some (true, f6)
def impl_countSteps_F (N : Nat) : Nat → Int → Block → Option (Bool × Int)
 | 0, _, _ => none
 | n + 1, s0_0, p0 => impl_countSteps_B N (impl_countSteps_F N n) s0_0 p0
def impl_countSteps (N : Nat) (s0_0 : Int) (p0 : Block) : Option (Bool × Int) := impl_countSteps_F N N s0_0 p0
def impl_StepsOf (N : Nat) (p0 : Block) : Option (Int) :=
 Option.bind (impl_countSteps N 0 p0) fun q5 =>
 if (!q5.1) = true then
  some (-1)
 else
  some q5.2
def impl_isCounting (p0 : Int) : Option (Bool) :=
 Option.bind (
  if (decide (14 ≤ p0)) = true then
   some (decide (p0 ≤ 17))
  else
   some false
 ) fun t3 =>
 some t3
def laws_eqBlockS_L1 (p0 : (List Block)) (p1 : (List Block)) (rec_laws_eqBlock : Block → Block → Option (Bool)) : Nat → Int → Option ((Bool) ⊕ (Unit))
 | 0, _ => none
 | n + 1, i10 =>
  if (decide (i10 < (Sh.len p0))) = true then
   Option.bind (Sh.get p0 i10) fun c18 =>
   Option.bind (Sh.get p1 i10) fun c19 =>
   Option.bind (rec_laws_eqBlock c18 c19) fun q20 =>
   if (!q20) = true then
    some (Sum.inl false)
   else
    laws_eqBlockS_L1 p0 p1 rec_laws_eqBlock n (Sh.w (i10 + 1))
  else
   some (Sum.inr ())
def laws_eqBlockS (N : Nat) (rec_laws_eqBlock : Block → Block → Option (Bool)) (p0 : (List Block)) (p1 : (List Block)) : Option (Bool) :=
 if (!decide ((Sh.len p0) = (Sh.len p1))) = true then
  some false
 else
  Sh.cont (laws_eqBlockS_L1 p0 p1 rec_laws_eqBlock N 0) (id) fun () =>
  some true
def laws_eqStep (N : Nat) (rec_laws_eqBlock : Block → Block → Option (Bool)) (p0 : Step) (p1 : Step) : Option (Bool) :=
 if (!decide (p0.op = p1.op)) = true then
  some false
 else
 if (!decide (p0.num = p1.num)) = true then
  some false
 else
 if (!decide (p0.into = p1.into)) = true then
  some false
 else
  Option.bind (laws_eqIntS N p0.args p1.args) fun q22 =>
  if (!q22) = true then
   some false
  else
   Option.bind (laws_eqBlockS N rec_laws_eqBlock p0.kids p1.kids) fun q29 =>
   if (!q29) = true then
    some false
   else
    some true
def laws_eqStepS_L1 (N : Nat) (p0 : (List Step)) (p1 : (List Step)) (rec_laws_eqBlock : Block → Block → Option (Bool)) : Nat → Int → Option ((Bool) ⊕ (Unit))
 | 0, _ => none
 | n + 1, i10 =>
  if (decide (i10 < (Sh.len p0))) = true then
   Option.bind (Sh.get p0 i10) fun c18 =>
   Option.bind (Sh.get p1 i10) fun c19 =>
   Option.bind (laws_eqStep N rec_laws_eqBlock c18 c19) fun q20 =>
   if (!q20) = true then
    some (Sum.inl false)
   else
    laws_eqStepS_L1 N p0 p1 rec_laws_eqBlock n (Sh.w (i10 + 1))
  else
   some (Sum.inr ())
def laws_eqStepS (N : Nat) (rec_laws_eqBlock : Block → Block → Option (Bool)) (p0 : (List Step)) (p1 : (List Step)) : Option (Bool) :=
 if (!decide ((Sh.len p0) = (Sh.len p1))) = true then
  some false
 else
  Sh.cont (laws_eqStepS_L1 N p0 p1 rec_laws_eqBlock N 0) (id) fun () =>
  some true
def laws_eqBlock_B (N : Nat) (rec_laws_eqBlock : Block → Block → Option (Bool)) (p0 : Block) (p1 : Block) : Option (Bool) :=
 Option.bind (laws_eqStepS N rec_laws_eqBlock p0.steps p1.steps) fun q4 =>
 if (!q4) = true then
  some false
 else
 if (!decide (p0.result = p1.result)) = true then
  some false
 else
  some true
def laws_eqBlock_F (N : Nat) : Nat → Block → Block → Option (Bool)
 | 0, _, _ => none
 | n + 1, p0, p1 => laws_eqBlock_B N (laws_eqBlock_F N n) p0 p1
def laws_eqBlock (N : Nat) (p0 : Block) (p1 : Block) : Option (Bool) := laws_eqBlock_F N N p0 p1
end RC

