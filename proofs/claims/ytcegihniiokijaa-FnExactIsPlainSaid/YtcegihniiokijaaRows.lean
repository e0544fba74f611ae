/-
  NARROWER THAN 'FOR EVERY INPUT', by the rows' own cells (each row's printed sentence says how): FnExactIsPlain: loops.
  DERIVED. THE GIVEN ROWS OF THIS SEAT. 3 by the template 'for every input the law returns true; each argument reads behind the call as it read before'; 0 by the template 'total and deterministic' (their statements: YtcegihniiokijaaTotals.lean).
  GIVEN WITH THE SEED: the statements are not yours to turn. If you find one false, say at which input.
  Laid BY PROGRAM, IN A SANDBOX (cutbox-rows.mjs): the forced cells as the released guide's own fill.sh prints them over the translation 18fa0263707d2109… (all of the seat's roots in one cut). By AI agents, Wed Nov 11 2026. No macro, syntax, notation, axiom, sorry.
-/
import Derived.Test.YtcegihniiokijaaChecked
import GoSem.Claim
import GoSem.ClaimJoined
import GoSem.ClaimMapViews
import Derived.JoinedTies
import Derived.KernelRfl
namespace Go.Proofs.Ytcegihniiokijaa
/- THE CELL 'sum', in the pinned program and in every row, IS THE sha256 OF THE DUMP (.gsa) THAT YtcegihniiokijaaProg.lean LOADS. Nothing in Lean hashes anything: it is a label: what it is worth is what the hold of that sum in a sandbox is worth. -/
noncomputable def Try.pinned : Pinned := { name := "ytcegihniiokijaa", sum := "18fa0263707d2109e2a325f142378cd235ad167e3b9783f3107f08c2fa0e499e", checked := Try.checked }
namespace Rows
def none {H : Type} : Left H := { results := [], args := [] }

/-- 'laws.FnExactValidMemory': WHATEVER THE INPUT: true; the input reads as it did. -/
def fnExactValidMemorySpec : ChangeSpec := { name := "fnExactValidMemory", fn := fun _ => fun
  | [d] => { results := [.lit (.bool true)], args := [d] }
  | _ => none }
def fnExactValidMemoryRow : OpenClaim := { program := "ytcegihniiokijaa", sum := "18fa0263707d2109e2a325f142378cd235ad167e3b9783f3107f08c2fa0e499e", func := "loop.example/refcountml/laws.FnExactValidMemory", spec := "fnExactValidMemory", unfollowed := true, recurses := true, apart := false }
def FnExactValidMemorySaid : Prop := fnExactValidMemoryRow.holds Try.pinned (OpenSpec.ofChange fnExactValidMemorySpec)

/-- ITS FALSE NEIGHBOUR: 'it returns false'. Refute it at one input. -/
def fnExactValidMemoryWrong : ChangeSpec := { name := "fnExactValidMemory", fn := fun _ => fun
  | [d] => { results := [.lit (.bool false)], args := [d] }
  | _ => none }
def FnExactValidMemoryWrongFalsely : Prop := fnExactValidMemoryRow.holds Try.pinned (OpenSpec.ofChange fnExactValidMemoryWrong)

/-- 'laws.FnExactCellOf': WHATEVER THE INPUT: true; the input reads as it did. -/
def fnExactCellOfSpec : ChangeSpec := { name := "fnExactCellOf", fn := fun _ => fun
  | [d1, d2] => { results := [.lit (.bool true)], args := [d1, d2] }
  | _ => none }
def fnExactCellOfRow : OpenClaim := { program := "ytcegihniiokijaa", sum := "18fa0263707d2109e2a325f142378cd235ad167e3b9783f3107f08c2fa0e499e", func := "loop.example/refcountml/laws.FnExactCellOf", spec := "fnExactCellOf", unfollowed := true, recurses := true, apart := false }
def FnExactCellOfSaid : Prop := fnExactCellOfRow.holds Try.pinned (OpenSpec.ofChange fnExactCellOfSpec)

/-- ITS FALSE NEIGHBOUR: 'it returns false'. Refute it at one input. -/
def fnExactCellOfWrong : ChangeSpec := { name := "fnExactCellOf", fn := fun _ => fun
  | [d1, d2] => { results := [.lit (.bool false)], args := [d1, d2] }
  | _ => none }
def FnExactCellOfWrongFalsely : Prop := fnExactCellOfRow.holds Try.pinned (OpenSpec.ofChange fnExactCellOfWrong)

/-- 'laws.FnExactIsPlain': WHATEVER THE INPUT: true; the input reads as it did. -/
def fnExactIsPlainSpec : ChangeSpec := { name := "fnExactIsPlain", fn := fun _ => fun
  | [d] => { results := [.lit (.bool true)], args := [d] }
  | _ => none }
def fnExactIsPlainRow : OpenClaim := { program := "ytcegihniiokijaa", sum := "18fa0263707d2109e2a325f142378cd235ad167e3b9783f3107f08c2fa0e499e", func := "loop.example/refcountml/laws.FnExactIsPlain", spec := "fnExactIsPlain", unfollowed := true, recurses := true, loops := true, apart := false }
def FnExactIsPlainSaid : Prop := fnExactIsPlainRow.holds Try.pinned (OpenSpec.ofChange fnExactIsPlainSpec)

/-- ITS FALSE NEIGHBOUR: 'it returns false'. Refute it at one input. -/
def fnExactIsPlainWrong : ChangeSpec := { name := "fnExactIsPlain", fn := fun _ => fun
  | [d] => { results := [.lit (.bool false)], args := [d] }
  | _ => none }
def FnExactIsPlainWrongFalsely : Prop := fnExactIsPlainRow.holds Try.pinned (OpenSpec.ofChange fnExactIsPlainWrong)

/- THE SECOND FORM. 'bulk': how many values and letters a reading holds, each counted each time it is reached (what is shared counts as often as it is met; a slice's spare places count too). A statement '..UptoSaid' is the law's where the arguments, and the package variables that the reading takes, are together of bulk at most 1048576: NARROWER than '..Said'. Prove '..Said' where nothing that the law and all that it calls make is longer than what came in: it says more and counts as full. Else prove '..UptoSaid'. A law counts once. -/
mutual
def uptoBulk {H : Type} : DataW H → Nat
  | .lit (.string bytes) => bytes.length + 1
  | .lit _ => 1
  | .nil => 1
  | .ptr d => uptoBulk d + 1
  | .slice elems spare => uptoBulkAll elems + uptoBulkAll spare + 1
  | .agg parts => uptoBulkAll parts + 1
  | .iface _ d => uptoBulk d + 1
  | .map entries => uptoBulkEntries entries + 1
  | .held _ => 1
def uptoBulkAll {H : Type} : List (DataW H) → Nat
  | [] => 0
  | d :: r => uptoBulk d + uptoBulkAll r
def uptoBulkEntries {H : Type} : List (Lit × DataW H) → Nat
  | [] => 0
  | x :: r => uptoBulkEntry x + uptoBulkEntries r
def uptoBulkEntry {H : Type} : Lit × DataW H → Nat
  | (.string bytes, d) => bytes.length + uptoBulk d + 1
  | (_, d) => uptoBulk d + 1
 end
def uptoSmall : (H : Type) → List (DataW H) → Bool := fun _ ds => decide (uptoBulkAll ds ≤ 1048576)
def OpenSpec.upto (s : _root_.Go.ChangeSpec) : _root_.Go.OpenSpec := { _root_.Go.OpenSpec.ofChange s with cond := some uptoSmall }

/-- 'laws.FnExactValidMemory', WHERE WHAT IT READS IS OF BULK AT MOST 1048576: true; the input reads as it did. -/
def fnExactValidMemoryUptoRow : OpenClaim := { program := "ytcegihniiokijaa", sum := "18fa0263707d2109e2a325f142378cd235ad167e3b9783f3107f08c2fa0e499e", func := "loop.example/refcountml/laws.FnExactValidMemory", spec := "fnExactValidMemory", unfollowed := true, recurses := true, apart := false, narrowed := true }
def FnExactValidMemoryUptoSaid : Prop := fnExactValidMemoryUptoRow.holds Try.pinned (OpenSpec.upto fnExactValidMemorySpec)

/-- 'laws.FnExactCellOf', WHERE WHAT IT READS IS OF BULK AT MOST 1048576: true; the input reads as it did. -/
def fnExactCellOfUptoRow : OpenClaim := { program := "ytcegihniiokijaa", sum := "18fa0263707d2109e2a325f142378cd235ad167e3b9783f3107f08c2fa0e499e", func := "loop.example/refcountml/laws.FnExactCellOf", spec := "fnExactCellOf", unfollowed := true, recurses := true, apart := false, narrowed := true }
def FnExactCellOfUptoSaid : Prop := fnExactCellOfUptoRow.holds Try.pinned (OpenSpec.upto fnExactCellOfSpec)

/-- 'laws.FnExactIsPlain', WHERE WHAT IT READS IS OF BULK AT MOST 1048576: true; the input reads as it did. -/
def fnExactIsPlainUptoRow : OpenClaim := { program := "ytcegihniiokijaa", sum := "18fa0263707d2109e2a325f142378cd235ad167e3b9783f3107f08c2fa0e499e", func := "loop.example/refcountml/laws.FnExactIsPlain", spec := "fnExactIsPlain", unfollowed := true, recurses := true, loops := true, apart := false, narrowed := true }
def FnExactIsPlainUptoSaid : Prop := fnExactIsPlainUptoRow.holds Try.pinned (OpenSpec.upto fnExactIsPlainSpec)

end Rows
end Go.Proofs.Ytcegihniiokijaa
