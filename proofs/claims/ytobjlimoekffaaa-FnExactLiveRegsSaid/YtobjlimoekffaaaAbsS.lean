import GoSem.ClaimJoined

namespace Go.Abs
open Go
def cvT (T : List (List Nat)) : (fuel : Nat) → (todo seen : List Nat) → List Nat
 | 0, _, seen => seen.reverse
 | _, [], seen => seen.reverse
 | n + 1, f :: todo, seen => if seen.contains f then cvT T n todo seen else cvT T n ((T[f]?).getD [] ++ todo) (f :: seen)
def fuelT (T : List (List Nat)) : Nat := 1 + (T.map fun l => l.length + 1).sum
def closT (T : List (List Nat)) (f : Nat) : List Nat := cvT T (fuelT T) [f] []
def recT (T : List (List Nat)) (f : Nat) : Bool := (closT T f).any fun g => ((T[g]?).getD []).any fun h => (closT T h).contains g
variable {P : Program} {T : List (List Nat)}
theorem lead_eq (hT : P.funcs.toList.map P.leadsTo = T) (g : Nat) : (P.funcs[g]?).elim [] P.leadsTo = (T[g]?).getD [] := by
 subst hT
 simp only [List.getElem?_map, Array.getElem?_toList]
 cases P.funcs[g]? <;> rfl
theorem closureVia_eq (hT : P.funcs.toList.map P.leadsTo = T) : ∀ (n : Nat) (todo seen : List Nat), P.closureVia n todo seen = cvT T n todo seen
 | 0, _, _ => by simp [Program.closureVia, cvT]
 | n + 1, [], _ => by simp [Program.closureVia, cvT]
 | n + 1, f :: todo, seen => by
  unfold Program.closureVia cvT
  rw [lead_eq hT, closureVia_eq hT n, closureVia_eq hT n]
theorem closure_eq (hT : P.funcs.toList.map P.leadsTo = T) (f : Nat) : P.closure f = closT T f := by
 unfold Program.closure closT fuelT
 rw [closureVia_eq hT]
 congr 2
 rw [← hT, List.map_map]
 rfl
theorem recurses_eq (hT : P.funcs.toList.map P.leadsTo = T) {f : Nat} (hu : P.unfollowed f = false) : P.recurses f = recT T f := by
 unfold Program.recurses recT
 rw [hu, Bool.false_or, closure_eq hT]
 congr 1
 funext g
 rw [lead_eq hT]
 congr 1
 funext h
 rw [closure_eq hT]
theorem recurses_unf {f : Nat} (hu : P.unfollowed f = true) : P.recurses f = true := by
 unfold Program.recurses
 rw [hu, Bool.true_or]
def cutC : List Char := [Char.ofNat 99, Char.ofNat 117, Char.ofNat 116]
theorem cutC_eq : cutC = "cut".toList := by decide
theorem strip_cut (rest : List (List Char)) : stripLifts liftWords (cutC :: rest) = ([], cutC :: rest) := by
 unfold stripLifts
 rfl
theorem headLifts_of {rest : List (List Char)} (hw : behindMainWord (wordsSigns P.initOrder.toList) = cutC :: rest) : P.headLifts = [] := by
 unfold Program.headLifts
 rw [hw, strip_cut]
 simp
theorem make_of {rest : List (List Char)} (hw : behindMainWord (wordsSigns P.initOrder.toList) = cutC :: rest) : P.make = some .cut := by
 unfold Program.make
 rw [hw]
 have h1 : (cutC == "gc".toList) = false := by decide
 have h2 : (cutC == "spec".toList) = false := by decide
 have h3 : (cutC == "cut".toList) = true := by decide
 simp only [h1, h2, h3]
 rfl
theorem liftsFinal_of {rest : List (List Char)} (hw : behindMainWord (wordsSigns P.initOrder.toList) = cutC :: rest) : P.liftsFinal = false := by
 unfold Program.liftsFinal
 rw [headLifts_of hw, hw]
 have h1 : (some cutC == some "carried".toList) = false := by decide
 simp only [List.head?_cons, h1]
 rfl
theorem mayEnter_of {rest : List (List Char)} (hw : behindMainWord (wordsSigns P.initOrder.toList) = cutC :: rest) (h1 : P.laysLater = false) (h2 : P.bearsReflect = false) (h3 : P.doorFits [] = true) : P.mayEnter = true := by
 unfold Program.mayEnter
 rw [hw]
 simp only [strip_cut, h1, h2, h3]
 have e1 : ((cutC :: rest).head? == some "cut".toList) = true := by
  rw [List.head?_cons]; decide
 rw [e1]
 simp
end Go.Abs

