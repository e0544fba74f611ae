import Derived.Test.YtpahalfiiahddaaGEncToEncB
import Derived.Test.YtpahalfiiahddaaHADefs
namespace RC
def laws_szBlockS_L1 (p0 : (List Block)) (rec_laws_szBlock : Block → Int → Option (Int)) : Nat → Int → Int → Option ((Int) ⊕ (Int))
 | 0, _, _ => none
 | n + 1, left9, i10 =>
  if (decide (i10 < (Sh.len p0))) = true then
   Option.bind (Sh.get p0 i10) fun c19 =>
   Option.bind (rec_laws_szBlock c19 left9) fun q20 =>
   if (decide (q20 < 0)) = true then
    some (Sum.inl (-1))
   else
    laws_szBlockS_L1 p0 rec_laws_szBlock n q20 (Sh.w (i10 + 1))
  else
   some (Sum.inr left9)
def laws_szBlockS (N : Nat) (rec_laws_szBlock : Block → Int → Option (Int)) (p0 : (List Block)) (p1 : Int) : Option (Int) :=
 if (decide ((Sh.w (p1 - (Sh.len p0))) < 0)) = true then
  some (-1)
 else
  Sh.cont (laws_szBlockS_L1 p0 rec_laws_szBlock N (Sh.w (p1 - (Sh.len p0))) 0) (id) fun left11 =>
  some left11
def laws_szStep (N : Nat) (rec_laws_szBlock : Block → Int → Option (Int)) (p0 : Step) (p1 : Int) : Option (Int) :=
 Option.bind (laws_szIntS p0.args p1) fun q3 =>
 if (decide (q3 < 0)) = true then
  some (-1)
 else
  Option.bind (laws_szBlockS N rec_laws_szBlock p0.kids q3) fun q9 =>
  if (decide (q9 < 0)) = true then
   some (-1)
  else
   some q9
def laws_szStepS_L1 (N : Nat) (p0 : (List Step)) (rec_laws_szBlock : Block → Int → Option (Int)) : Nat → Int → Int → Option ((Int) ⊕ (Int))
 | 0, _, _ => none
 | n + 1, left9, i10 =>
  if (decide (i10 < (Sh.len p0))) = true then
   Option.bind (Sh.get p0 i10) fun c19 =>
   Option.bind (laws_szStep N rec_laws_szBlock c19 left9) fun q20 =>
   if (decide (q20 < 0)) = true then
    some (Sum.inl (-1))
   else
    laws_szStepS_L1 N p0 rec_laws_szBlock n q20 (Sh.w (i10 + 1))
  else
   some (Sum.inr left9)
def laws_szStepS (N : Nat) (rec_laws_szBlock : Block → Int → Option (Int)) (p0 : (List Step)) (p1 : Int) : Option (Int) :=
 if (decide ((Sh.w (p1 - (Sh.len p0))) < 0)) = true then
  some (-1)
 else
  Sh.cont (laws_szStepS_L1 N p0 rec_laws_szBlock N (Sh.w (p1 - (Sh.len p0))) 0) (id) fun left11 =>
  some left11
def laws_szBlock_B (N : Nat) (rec_laws_szBlock : Block → Int → Option (Int)) (p0 : Block) (p1 : Int) : Option (Int) :=
 Option.bind (laws_szStepS N rec_laws_szBlock p0.steps p1) fun q3 =>
 if (decide (q3 < 0)) = true then
  some (-1)
 else
  some q3
def laws_szBlock_F (N : Nat) : Nat → Block → Int → Option (Int)
 | 0, _, _ => none
 | n + 1, p0, p1 => laws_szBlock_B N (laws_szBlock_F N n) p0 p1
def laws_szBlock (N : Nat) (p0 : Block) (p1 : Int) : Option (Int) := laws_szBlock_F N N p0 p1
end RC

