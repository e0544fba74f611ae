/-
  NARROWER THAN 'FOR EVERY INPUT', by the rows' own cells (each row's printed sentence says how): FnExactCountLate: loops · FnExactCount: loops · FnExactCountsOf: loops · FnExactUnlend: loops · FnExactBorrow: loops.
  DERIVED. THE GIVEN ROWS OF THIS SEAT. 5 by the template 'for every input the law returns true; each argument reads behind the call as it read before'; 0 by the template 'total and deterministic' (their statements: YtcegihniiokijaaGreatTotals.lean).
  GIVEN WITH THE SEED: the statements are not yours to turn. If you find one false, say at which input.
  Laid BY PROGRAM, IN A SANDBOX (cutbox-rows.mjs): the forced cells as the released guide's own fill.sh prints them over the translation 7e0bbdd40fc921e3… (all of the seat's roots in one cut). By AI agents, Wed Nov 11 2026. No macro, syntax, notation, axiom, sorry.
-/
import Derived.Test.YtcegihniiokijaaGreatChecked
import GoSem.Claim
import GoSem.ClaimJoined
import GoSem.ClaimMapViews
import Derived.JoinedTies
import Derived.KernelRfl
namespace Go.Proofs.YtcegihniiokijaaGreat
/- THE CELL 'sum', in the pinned program and in every row, IS THE sha256 OF THE DUMP (.gsa) THAT YtcegihniiokijaaGreatProg.lean LOADS. Nothing in Lean hashes anything: it is a label: what it is worth is what the hold of that sum in a sandbox is worth. -/
noncomputable def Tryz.pinned : Pinned := { name := "ytcegihniiokijaagreat", sum := "7e0bbdd40fc921e36de1385744ea77d2d3f97dec6c362faa1ebd4f432c3e8bb8", checked := Tryz.checked }
namespace Rows
def none {H : Type} : Left H := { results := [], args := [] }

/-- 'laws.FnExactCountLate': WHATEVER THE INPUT: true; the input reads as it did. -/
def fnExactCountLateSpec : ChangeSpec := { name := "fnExactCountLate", fn := fun _ => fun
  | [d] => { results := [.lit (.bool true)], args := [d] }
  | _ => none }
def fnExactCountLateRow : OpenClaim := { program := "ytcegihniiokijaagreat", sum := "7e0bbdd40fc921e36de1385744ea77d2d3f97dec6c362faa1ebd4f432c3e8bb8", func := "loop.example/refcountml/laws.FnExactCountLate", spec := "fnExactCountLate", inPlace := ["slices.overlaps[int]"], unfollowed := true, recurses := true, loops := true, apart := false }
def FnExactCountLateSaid : Prop := fnExactCountLateRow.holds Tryz.pinned (OpenSpec.ofChange fnExactCountLateSpec)

/-- ITS FALSE NEIGHBOUR: 'it returns false'. Refute it at one input. -/
def fnExactCountLateWrong : ChangeSpec := { name := "fnExactCountLate", fn := fun _ => fun
  | [d] => { results := [.lit (.bool false)], args := [d] }
  | _ => none }
def FnExactCountLateWrongFalsely : Prop := fnExactCountLateRow.holds Tryz.pinned (OpenSpec.ofChange fnExactCountLateWrong)

/-- 'laws.FnExactCount': WHATEVER THE INPUT: true; the input reads as it did. -/
def fnExactCountSpec : ChangeSpec := { name := "fnExactCount", fn := fun _ => fun
  | [d] => { results := [.lit (.bool true)], args := [d] }
  | _ => none }
def fnExactCountRow : OpenClaim := { program := "ytcegihniiokijaagreat", sum := "7e0bbdd40fc921e36de1385744ea77d2d3f97dec6c362faa1ebd4f432c3e8bb8", func := "loop.example/refcountml/laws.FnExactCount", spec := "fnExactCount", inPlace := ["slices.overlaps[int]"], unfollowed := true, recurses := true, loops := true, apart := false }
def FnExactCountSaid : Prop := fnExactCountRow.holds Tryz.pinned (OpenSpec.ofChange fnExactCountSpec)

/-- ITS FALSE NEIGHBOUR: 'it returns false'. Refute it at one input. -/
def fnExactCountWrong : ChangeSpec := { name := "fnExactCount", fn := fun _ => fun
  | [d] => { results := [.lit (.bool false)], args := [d] }
  | _ => none }
def FnExactCountWrongFalsely : Prop := fnExactCountRow.holds Tryz.pinned (OpenSpec.ofChange fnExactCountWrong)

/-- 'laws.FnExactCountsOf': WHATEVER THE INPUT: true; the input reads as it did. -/
def fnExactCountsOfSpec : ChangeSpec := { name := "fnExactCountsOf", fn := fun _ => fun
  | [d] => { results := [.lit (.bool true)], args := [d] }
  | _ => none }
def fnExactCountsOfRow : OpenClaim := { program := "ytcegihniiokijaagreat", sum := "7e0bbdd40fc921e36de1385744ea77d2d3f97dec6c362faa1ebd4f432c3e8bb8", func := "loop.example/refcountml/laws.FnExactCountsOf", spec := "fnExactCountsOf", unfollowed := true, recurses := true, loops := true, apart := false }
def FnExactCountsOfSaid : Prop := fnExactCountsOfRow.holds Tryz.pinned (OpenSpec.ofChange fnExactCountsOfSpec)

/-- ITS FALSE NEIGHBOUR: 'it returns false'. Refute it at one input. -/
def fnExactCountsOfWrong : ChangeSpec := { name := "fnExactCountsOf", fn := fun _ => fun
  | [d] => { results := [.lit (.bool false)], args := [d] }
  | _ => none }
def FnExactCountsOfWrongFalsely : Prop := fnExactCountsOfRow.holds Tryz.pinned (OpenSpec.ofChange fnExactCountsOfWrong)

/-- 'laws.FnExactUnlend': WHATEVER THE INPUT: true; the input reads as it did. -/
def fnExactUnlendSpec : ChangeSpec := { name := "fnExactUnlend", fn := fun _ => fun
  | [d] => { results := [.lit (.bool true)], args := [d] }
  | _ => none }
def fnExactUnlendRow : OpenClaim := { program := "ytcegihniiokijaagreat", sum := "7e0bbdd40fc921e36de1385744ea77d2d3f97dec6c362faa1ebd4f432c3e8bb8", func := "loop.example/refcountml/laws.FnExactUnlend", spec := "fnExactUnlend", unfollowed := true, recurses := true, loops := true, apart := false }
def FnExactUnlendSaid : Prop := fnExactUnlendRow.holds Tryz.pinned (OpenSpec.ofChange fnExactUnlendSpec)

/-- ITS FALSE NEIGHBOUR: 'it returns false'. Refute it at one input. -/
def fnExactUnlendWrong : ChangeSpec := { name := "fnExactUnlend", fn := fun _ => fun
  | [d] => { results := [.lit (.bool false)], args := [d] }
  | _ => none }
def FnExactUnlendWrongFalsely : Prop := fnExactUnlendRow.holds Tryz.pinned (OpenSpec.ofChange fnExactUnlendWrong)

/-- 'laws.FnExactBorrow': WHATEVER THE INPUT: true; the input reads as it did. -/
def fnExactBorrowSpec : ChangeSpec := { name := "fnExactBorrow", fn := fun _ => fun
  | [d] => { results := [.lit (.bool true)], args := [d] }
  | _ => none }
def fnExactBorrowRow : OpenClaim := { program := "ytcegihniiokijaagreat", sum := "7e0bbdd40fc921e36de1385744ea77d2d3f97dec6c362faa1ebd4f432c3e8bb8", func := "loop.example/refcountml/laws.FnExactBorrow", spec := "fnExactBorrow", inPlace := ["slices.overlaps[int]"], unfollowed := true, recurses := true, loops := true, apart := false }
def FnExactBorrowSaid : Prop := fnExactBorrowRow.holds Tryz.pinned (OpenSpec.ofChange fnExactBorrowSpec)

/-- ITS FALSE NEIGHBOUR: 'it returns false'. Refute it at one input. -/
def fnExactBorrowWrong : ChangeSpec := { name := "fnExactBorrow", fn := fun _ => fun
  | [d] => { results := [.lit (.bool false)], args := [d] }
  | _ => none }
def FnExactBorrowWrongFalsely : Prop := fnExactBorrowRow.holds Tryz.pinned (OpenSpec.ofChange fnExactBorrowWrong)

/- THE SECOND FORM. 'bulk': how many values and letters a reading holds, each counted each time it is reached (what is shared counts as often as it is met; a slice's spare places count too). A statement '..UptoSaid' is the law's where the arguments, and the package variables that the reading takes, are together of bulk at most 1048576: NARROWER than '..Said'. Prove '..Said' where nothing that the law and all that it calls make is longer than what came in: it says more and counts as full. Else prove '..UptoSaid'. A law counts once. -/
mutual
def uptoBulk {H : Type} : DataW H → Nat
  | .lit (.string bytes) => bytes.length + 1
  | .lit _ => 1
  | .nil => 1
  | .ptr d => uptoBulk d + 1
  | .slice elems spare => uptoBulkAll elems + uptoBulkAll spare + 1
  | .agg parts => uptoBulkAll parts + 1
  | .iface _ d => uptoBulk d + 1
  | .map entries => uptoBulkEntries entries + 1
  | .held _ => 1
def uptoBulkAll {H : Type} : List (DataW H) → Nat
  | [] => 0
  | d :: r => uptoBulk d + uptoBulkAll r
def uptoBulkEntries {H : Type} : List (Lit × DataW H) → Nat
  | [] => 0
  | x :: r => uptoBulkEntry x + uptoBulkEntries r
def uptoBulkEntry {H : Type} : Lit × DataW H → Nat
  | (.string bytes, d) => bytes.length + uptoBulk d + 1
  | (_, d) => uptoBulk d + 1
 end
def uptoSmall : (H : Type) → List (DataW H) → Bool := fun _ ds => decide (uptoBulkAll ds ≤ 1048576)
def OpenSpec.upto (s : _root_.Go.ChangeSpec) : _root_.Go.OpenSpec := { _root_.Go.OpenSpec.ofChange s with cond := some uptoSmall }

/-- 'laws.FnExactCountLate', WHERE WHAT IT READS IS OF BULK AT MOST 1048576: true; the input reads as it did. -/
def fnExactCountLateUptoRow : OpenClaim := { program := "ytcegihniiokijaagreat", sum := "7e0bbdd40fc921e36de1385744ea77d2d3f97dec6c362faa1ebd4f432c3e8bb8", func := "loop.example/refcountml/laws.FnExactCountLate", spec := "fnExactCountLate", inPlace := ["slices.overlaps[int]"], unfollowed := true, recurses := true, loops := true, apart := false, narrowed := true }
def FnExactCountLateUptoSaid : Prop := fnExactCountLateUptoRow.holds Tryz.pinned (OpenSpec.upto fnExactCountLateSpec)

/-- 'laws.FnExactCount', WHERE WHAT IT READS IS OF BULK AT MOST 1048576: true; the input reads as it did. -/
def fnExactCountUptoRow : OpenClaim := { program := "ytcegihniiokijaagreat", sum := "7e0bbdd40fc921e36de1385744ea77d2d3f97dec6c362faa1ebd4f432c3e8bb8", func := "loop.example/refcountml/laws.FnExactCount", spec := "fnExactCount", inPlace := ["slices.overlaps[int]"], unfollowed := true, recurses := true, loops := true, apart := false, narrowed := true }
def FnExactCountUptoSaid : Prop := fnExactCountUptoRow.holds Tryz.pinned (OpenSpec.upto fnExactCountSpec)

/-- 'laws.FnExactCountsOf', WHERE WHAT IT READS IS OF BULK AT MOST 1048576: true; the input reads as it did. -/
def fnExactCountsOfUptoRow : OpenClaim := { program := "ytcegihniiokijaagreat", sum := "7e0bbdd40fc921e36de1385744ea77d2d3f97dec6c362faa1ebd4f432c3e8bb8", func := "loop.example/refcountml/laws.FnExactCountsOf", spec := "fnExactCountsOf", unfollowed := true, recurses := true, loops := true, apart := false, narrowed := true }
def FnExactCountsOfUptoSaid : Prop := fnExactCountsOfUptoRow.holds Tryz.pinned (OpenSpec.upto fnExactCountsOfSpec)

/-- 'laws.FnExactUnlend', WHERE WHAT IT READS IS OF BULK AT MOST 1048576: true; the input reads as it did. -/
def fnExactUnlendUptoRow : OpenClaim := { program := "ytcegihniiokijaagreat", sum := "7e0bbdd40fc921e36de1385744ea77d2d3f97dec6c362faa1ebd4f432c3e8bb8", func := "loop.example/refcountml/laws.FnExactUnlend", spec := "fnExactUnlend", unfollowed := true, recurses := true, loops := true, apart := false, narrowed := true }
def FnExactUnlendUptoSaid : Prop := fnExactUnlendUptoRow.holds Tryz.pinned (OpenSpec.upto fnExactUnlendSpec)

/-- 'laws.FnExactBorrow', WHERE WHAT IT READS IS OF BULK AT MOST 1048576: true; the input reads as it did. -/
def fnExactBorrowUptoRow : OpenClaim := { program := "ytcegihniiokijaagreat", sum := "7e0bbdd40fc921e36de1385744ea77d2d3f97dec6c362faa1ebd4f432c3e8bb8", func := "loop.example/refcountml/laws.FnExactBorrow", spec := "fnExactBorrow", inPlace := ["slices.overlaps[int]"], unfollowed := true, recurses := true, loops := true, apart := false, narrowed := true }
def FnExactBorrowUptoSaid : Prop := fnExactBorrowUptoRow.holds Tryz.pinned (OpenSpec.upto fnExactBorrowSpec)

end Rows
end Go.Proofs.YtcegihniiokijaaGreat
