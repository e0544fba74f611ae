/-
  NARROWER THAN 'FOR EVERY INPUT', by the rows' own cells (each row's printed sentence says how): FnExactCount: loops · FnExactBorrow: loops.
  DERIVED. THE GIVEN ROWS OF THIS SEAT. 4 by the template 'for every input the law returns true; each argument reads behind the call as it read before'; 0 by the template 'total and deterministic' (their statements: YtccficmcdkcpnaaGreatTotals.lean).
  GIVEN WITH THE SEED: the statements are not yours to turn. If you find one false, say at which input.
  Laid BY PROGRAM, IN A SANDBOX (cutbox-rows.mjs): the forced cells as the released guide's own fill.sh prints them over the translation 0bb13bf501fb5a39… (all of the seat's roots in one cut). By AI agents, Wed Nov 11 2026. No macro, syntax, notation, axiom, sorry.
-/
import Derived.Test.YtccficmcdkcpnaaGreatChecked
import GoSem.Claim
import GoSem.ClaimJoined
import GoSem.ClaimMapViews
import Derived.JoinedTies
import Derived.KernelRfl
namespace Go.Proofs.YtccficmcdkcpnaaGreat
/- THE CELL 'sum', in the pinned program and in every row, IS THE sha256 OF THE DUMP (.gsa) THAT YtccficmcdkcpnaaGreatProg.lean LOADS. Nothing in Lean hashes anything: it is a label: what it is worth is what the hold of that sum in a sandbox is worth. -/
noncomputable def Tryz.pinned : Pinned := { name := "ytccficmcdkcpnaagreat", sum := "0bb13bf501fb5a39578e7e85989c1428ed03182be98c765a6954c6af039b2575", checked := Tryz.checked }
namespace Rows
def none {H : Type} : Left H := { results := [], args := [] }

/-- 'laws.FnExactCount': WHATEVER THE INPUT: true; the input reads as it did. -/
def fnExactCountSpec : ChangeSpec := { name := "fnExactCount", fn := fun _ => fun
  | [d] => { results := [.lit (.bool true)], args := [d] }
  | _ => none }
def fnExactCountRow : OpenClaim := { program := "ytccficmcdkcpnaagreat", sum := "0bb13bf501fb5a39578e7e85989c1428ed03182be98c765a6954c6af039b2575", func := "loop.example/refcountml/laws.FnExactCount", spec := "fnExactCount", inPlace := ["slices.overlaps[int]"], unfollowed := true, recurses := true, loops := true, apart := false }
def FnExactCountSaid : Prop := fnExactCountRow.holds Tryz.pinned (OpenSpec.ofChange fnExactCountSpec)

/-- ITS FALSE NEIGHBOUR: 'it returns false'. Refute it at one input. -/
def fnExactCountWrong : ChangeSpec := { name := "fnExactCount", fn := fun _ => fun
  | [d] => { results := [.lit (.bool false)], args := [d] }
  | _ => none }
def FnExactCountWrongFalsely : Prop := fnExactCountRow.holds Tryz.pinned (OpenSpec.ofChange fnExactCountWrong)

/-- 'laws.FnExactBorrow': WHATEVER THE INPUT: true; the input reads as it did. -/
def fnExactBorrowSpec : ChangeSpec := { name := "fnExactBorrow", fn := fun _ => fun
  | [d] => { results := [.lit (.bool true)], args := [d] }
  | _ => none }
def fnExactBorrowRow : OpenClaim := { program := "ytccficmcdkcpnaagreat", sum := "0bb13bf501fb5a39578e7e85989c1428ed03182be98c765a6954c6af039b2575", func := "loop.example/refcountml/laws.FnExactBorrow", spec := "fnExactBorrow", inPlace := ["slices.overlaps[int]"], unfollowed := true, recurses := true, loops := true, apart := false }
def FnExactBorrowSaid : Prop := fnExactBorrowRow.holds Tryz.pinned (OpenSpec.ofChange fnExactBorrowSpec)

/-- ITS FALSE NEIGHBOUR: 'it returns false'. Refute it at one input. -/
def fnExactBorrowWrong : ChangeSpec := { name := "fnExactBorrow", fn := fun _ => fun
  | [d] => { results := [.lit (.bool false)], args := [d] }
  | _ => none }
def FnExactBorrowWrongFalsely : Prop := fnExactBorrowRow.holds Tryz.pinned (OpenSpec.ofChange fnExactBorrowWrong)

/-- 'laws.FnCountProgram': WHATEVER THE INPUT: true; the input reads as it did. -/
def fnCountProgramSpec : ChangeSpec := { name := "fnCountProgram", fn := fun _ => fun
  | [d] => { results := [.lit (.bool true)], args := [d] }
  | _ => none }
def fnCountProgramRow : OpenClaim := { program := "ytccficmcdkcpnaagreat", sum := "0bb13bf501fb5a39578e7e85989c1428ed03182be98c765a6954c6af039b2575", func := "loop.example/refcountml/laws.FnCountProgram", spec := "fnCountProgram", inPlace := ["slices.overlaps[int]"], unfollowed := true, recurses := true, apart := false }
def FnCountProgramSaid : Prop := fnCountProgramRow.holds Tryz.pinned (OpenSpec.ofChange fnCountProgramSpec)

/-- ITS FALSE NEIGHBOUR: 'it returns false'. Refute it at one input. -/
def fnCountProgramWrong : ChangeSpec := { name := "fnCountProgram", fn := fun _ => fun
  | [d] => { results := [.lit (.bool false)], args := [d] }
  | _ => none }
def FnCountProgramWrongFalsely : Prop := fnCountProgramRow.holds Tryz.pinned (OpenSpec.ofChange fnCountProgramWrong)

/-- 'laws.FnNormalize': WHATEVER THE INPUT: true; the input reads as it did. -/
def fnNormalizeSpec : ChangeSpec := { name := "fnNormalize", fn := fun _ => fun
  | [d] => { results := [.lit (.bool true)], args := [d] }
  | _ => none }
def fnNormalizeRow : OpenClaim := { program := "ytccficmcdkcpnaagreat", sum := "0bb13bf501fb5a39578e7e85989c1428ed03182be98c765a6954c6af039b2575", func := "loop.example/refcountml/laws.FnNormalize", spec := "fnNormalize", unfollowed := true, recurses := true, apart := false }
def FnNormalizeSaid : Prop := fnNormalizeRow.holds Tryz.pinned (OpenSpec.ofChange fnNormalizeSpec)

/-- ITS FALSE NEIGHBOUR: 'it returns false'. Refute it at one input. -/
def fnNormalizeWrong : ChangeSpec := { name := "fnNormalize", fn := fun _ => fun
  | [d] => { results := [.lit (.bool false)], args := [d] }
  | _ => none }
def FnNormalizeWrongFalsely : Prop := fnNormalizeRow.holds Tryz.pinned (OpenSpec.ofChange fnNormalizeWrong)

/- THE SECOND FORM. 'bulk': how many values and letters a reading holds, each counted each time it is reached (what is shared counts as often as it is met; a slice's spare places count too). A statement '..UptoSaid' is the law's where the arguments, and the package variables that the reading takes, are together of bulk at most 1048576: NARROWER than '..Said'. Prove '..Said' where nothing that the law and all that it calls make is longer than what came in: it says more and counts as full. Else prove '..UptoSaid'. A law counts once. -/
mutual
def uptoBulk {H : Type} : DataW H → Nat
  | .lit (.string bytes) => bytes.length + 1
  | .lit _ => 1
  | .nil => 1
  | .ptr d => uptoBulk d + 1
  | .slice elems spare => uptoBulkAll elems + uptoBulkAll spare + 1
  | .agg parts => uptoBulkAll parts + 1
  | .iface _ d => uptoBulk d + 1
  | .map entries => uptoBulkEntries entries + 1
  | .held _ => 1
def uptoBulkAll {H : Type} : List (DataW H) → Nat
  | [] => 0
  | d :: r => uptoBulk d + uptoBulkAll r
def uptoBulkEntries {H : Type} : List (Lit × DataW H) → Nat
  | [] => 0
  | x :: r => uptoBulkEntry x + uptoBulkEntries r
def uptoBulkEntry {H : Type} : Lit × DataW H → Nat
  | (.string bytes, d) => bytes.length + uptoBulk d + 1
  | (_, d) => uptoBulk d + 1
 end
def uptoSmall : (H : Type) → List (DataW H) → Bool := fun _ ds => decide (uptoBulkAll ds ≤ 1048576)
def OpenSpec.upto (s : _root_.Go.ChangeSpec) : _root_.Go.OpenSpec := { _root_.Go.OpenSpec.ofChange s with cond := some uptoSmall }

/-- 'laws.FnExactCount', WHERE WHAT IT READS IS OF BULK AT MOST 1048576: true; the input reads as it did. -/
def fnExactCountUptoRow : OpenClaim := { program := "ytccficmcdkcpnaagreat", sum := "0bb13bf501fb5a39578e7e85989c1428ed03182be98c765a6954c6af039b2575", func := "loop.example/refcountml/laws.FnExactCount", spec := "fnExactCount", inPlace := ["slices.overlaps[int]"], unfollowed := true, recurses := true, loops := true, apart := false, narrowed := true }
def FnExactCountUptoSaid : Prop := fnExactCountUptoRow.holds Tryz.pinned (OpenSpec.upto fnExactCountSpec)

/-- 'laws.FnExactBorrow', WHERE WHAT IT READS IS OF BULK AT MOST 1048576: true; the input reads as it did. -/
def fnExactBorrowUptoRow : OpenClaim := { program := "ytccficmcdkcpnaagreat", sum := "0bb13bf501fb5a39578e7e85989c1428ed03182be98c765a6954c6af039b2575", func := "loop.example/refcountml/laws.FnExactBorrow", spec := "fnExactBorrow", inPlace := ["slices.overlaps[int]"], unfollowed := true, recurses := true, loops := true, apart := false, narrowed := true }
def FnExactBorrowUptoSaid : Prop := fnExactBorrowUptoRow.holds Tryz.pinned (OpenSpec.upto fnExactBorrowSpec)

/-- 'laws.FnCountProgram', WHERE WHAT IT READS IS OF BULK AT MOST 1048576: true; the input reads as it did. -/
def fnCountProgramUptoRow : OpenClaim := { program := "ytccficmcdkcpnaagreat", sum := "0bb13bf501fb5a39578e7e85989c1428ed03182be98c765a6954c6af039b2575", func := "loop.example/refcountml/laws.FnCountProgram", spec := "fnCountProgram", inPlace := ["slices.overlaps[int]"], unfollowed := true, recurses := true, apart := false, narrowed := true }
def FnCountProgramUptoSaid : Prop := fnCountProgramUptoRow.holds Tryz.pinned (OpenSpec.upto fnCountProgramSpec)

/-- 'laws.FnNormalize', WHERE WHAT IT READS IS OF BULK AT MOST 1048576: true; the input reads as it did. -/
def fnNormalizeUptoRow : OpenClaim := { program := "ytccficmcdkcpnaagreat", sum := "0bb13bf501fb5a39578e7e85989c1428ed03182be98c765a6954c6af039b2575", func := "loop.example/refcountml/laws.FnNormalize", spec := "fnNormalize", unfollowed := true, recurses := true, apart := false, narrowed := true }
def FnNormalizeUptoSaid : Prop := fnNormalizeUptoRow.holds Tryz.pinned (OpenSpec.upto fnNormalizeSpec)

end Rows
end Go.Proofs.YtccficmcdkcpnaaGreat
