/-
  NARROWER THAN 'FOR EVERY INPUT', by the rows' own cells (each row's printed sentence says how): FnExactUsesOf: loops · FnExactLastUse: loops · FnExactUsedFrom: loops · FnExactUsedIn: loops.
  DERIVED. THE GIVEN ROWS OF THIS SEAT. 9 by the template 'for every input the law returns true; each argument reads behind the call as it read before'; 0 by the template 'total and deterministic' (their statements: YtkmgpbngemdmoaaTotals.lean).
  GIVEN WITH THE SEED: the statements are not yours to turn. If you find one false, say at which input.
  Laid BY PROGRAM, IN A SANDBOX (cutbox-rows.mjs): the forced cells as the released guide's own fill.sh prints them over the translation 48aa2ef6f1c3fe99… (all of the seat's roots in one cut). By AI agents, Wed Nov 11 2026. No macro, syntax, notation, axiom, sorry.
-/
import Derived.Test.YtkmgpbngemdmoaaChecked
import GoSem.Claim
import GoSem.ClaimJoined
import GoSem.ClaimMapViews
import Derived.JoinedTies
import Derived.KernelRfl
namespace Go.Proofs.Ytkmgpbngemdmoaa
/- THE CELL 'sum', in the pinned program and in every row, IS THE sha256 OF THE DUMP (.gsa) THAT YtkmgpbngemdmoaaProg.lean LOADS. Nothing in Lean hashes anything: it is a label: what it is worth is what the hold of that sum in a sandbox is worth. -/
noncomputable def Try.pinned : Pinned := { name := "ytkmgpbngemdmoaa", sum := "48aa2ef6f1c3fe9918209394057059537035bea6079e7be062bb2f71962dada6", checked := Try.checked }
namespace Rows
def none {H : Type} : Left H := { results := [], args := [] }

/-- 'laws.FnExactUsesOf': WHATEVER THE INPUT: true; the input reads as it did. -/
def fnExactUsesOfSpec : ChangeSpec := { name := "fnExactUsesOf", fn := fun _ => fun
  | [d1, d2] => { results := [.lit (.bool true)], args := [d1, d2] }
  | _ => none }
def fnExactUsesOfRow : OpenClaim := { program := "ytkmgpbngemdmoaa", sum := "48aa2ef6f1c3fe9918209394057059537035bea6079e7be062bb2f71962dada6", func := "loop.example/refcountml/laws.FnExactUsesOf", spec := "fnExactUsesOf", unfollowed := true, recurses := true, loops := true, apart := false }
def FnExactUsesOfSaid : Prop := fnExactUsesOfRow.holds Try.pinned (OpenSpec.ofChange fnExactUsesOfSpec)

/-- ITS FALSE NEIGHBOUR: 'it returns false'. Refute it at one input. -/
def fnExactUsesOfWrong : ChangeSpec := { name := "fnExactUsesOf", fn := fun _ => fun
  | [d1, d2] => { results := [.lit (.bool false)], args := [d1, d2] }
  | _ => none }
def FnExactUsesOfWrongFalsely : Prop := fnExactUsesOfRow.holds Try.pinned (OpenSpec.ofChange fnExactUsesOfWrong)

/-- 'laws.FnExactLastUse': WHATEVER THE INPUT: true; the input reads as it did. -/
def fnExactLastUseSpec : ChangeSpec := { name := "fnExactLastUse", fn := fun _ => fun
  | [d1, d2] => { results := [.lit (.bool true)], args := [d1, d2] }
  | _ => none }
def fnExactLastUseRow : OpenClaim := { program := "ytkmgpbngemdmoaa", sum := "48aa2ef6f1c3fe9918209394057059537035bea6079e7be062bb2f71962dada6", func := "loop.example/refcountml/laws.FnExactLastUse", spec := "fnExactLastUse", unfollowed := true, recurses := true, loops := true, apart := false }
def FnExactLastUseSaid : Prop := fnExactLastUseRow.holds Try.pinned (OpenSpec.ofChange fnExactLastUseSpec)

/-- ITS FALSE NEIGHBOUR: 'it returns false'. Refute it at one input. -/
def fnExactLastUseWrong : ChangeSpec := { name := "fnExactLastUse", fn := fun _ => fun
  | [d1, d2] => { results := [.lit (.bool false)], args := [d1, d2] }
  | _ => none }
def FnExactLastUseWrongFalsely : Prop := fnExactLastUseRow.holds Try.pinned (OpenSpec.ofChange fnExactLastUseWrong)

/-- 'laws.FnExactValidLazy': WHATEVER THE INPUT: true; the input reads as it did. -/
def fnExactValidLazySpec : ChangeSpec := { name := "fnExactValidLazy", fn := fun _ => fun
  | [d] => { results := [.lit (.bool true)], args := [d] }
  | _ => none }
def fnExactValidLazyRow : OpenClaim := { program := "ytkmgpbngemdmoaa", sum := "48aa2ef6f1c3fe9918209394057059537035bea6079e7be062bb2f71962dada6", func := "loop.example/refcountml/laws.FnExactValidLazy", spec := "fnExactValidLazy", unfollowed := true, recurses := true, apart := false }
def FnExactValidLazySaid : Prop := fnExactValidLazyRow.holds Try.pinned (OpenSpec.ofChange fnExactValidLazySpec)

/-- ITS FALSE NEIGHBOUR: 'it returns false'. Refute it at one input. -/
def fnExactValidLazyWrong : ChangeSpec := { name := "fnExactValidLazy", fn := fun _ => fun
  | [d] => { results := [.lit (.bool false)], args := [d] }
  | _ => none }
def FnExactValidLazyWrongFalsely : Prop := fnExactValidLazyRow.holds Try.pinned (OpenSpec.ofChange fnExactValidLazyWrong)

/-- 'laws.FnExactValidMemory': WHATEVER THE INPUT: true; the input reads as it did. -/
def fnExactValidMemorySpec : ChangeSpec := { name := "fnExactValidMemory", fn := fun _ => fun
  | [d] => { results := [.lit (.bool true)], args := [d] }
  | _ => none }
def fnExactValidMemoryRow : OpenClaim := { program := "ytkmgpbngemdmoaa", sum := "48aa2ef6f1c3fe9918209394057059537035bea6079e7be062bb2f71962dada6", func := "loop.example/refcountml/laws.FnExactValidMemory", spec := "fnExactValidMemory", unfollowed := true, recurses := true, apart := false }
def FnExactValidMemorySaid : Prop := fnExactValidMemoryRow.holds Try.pinned (OpenSpec.ofChange fnExactValidMemorySpec)

/-- ITS FALSE NEIGHBOUR: 'it returns false'. Refute it at one input. -/
def fnExactValidMemoryWrong : ChangeSpec := { name := "fnExactValidMemory", fn := fun _ => fun
  | [d] => { results := [.lit (.bool false)], args := [d] }
  | _ => none }
def FnExactValidMemoryWrongFalsely : Prop := fnExactValidMemoryRow.holds Try.pinned (OpenSpec.ofChange fnExactValidMemoryWrong)

/-- 'laws.FnExactCellOf': WHATEVER THE INPUT: true; the input reads as it did. -/
def fnExactCellOfSpec : ChangeSpec := { name := "fnExactCellOf", fn := fun _ => fun
  | [d1, d2] => { results := [.lit (.bool true)], args := [d1, d2] }
  | _ => none }
def fnExactCellOfRow : OpenClaim := { program := "ytkmgpbngemdmoaa", sum := "48aa2ef6f1c3fe9918209394057059537035bea6079e7be062bb2f71962dada6", func := "loop.example/refcountml/laws.FnExactCellOf", spec := "fnExactCellOf", unfollowed := true, recurses := true, apart := false }
def FnExactCellOfSaid : Prop := fnExactCellOfRow.holds Try.pinned (OpenSpec.ofChange fnExactCellOfSpec)

/-- ITS FALSE NEIGHBOUR: 'it returns false'. Refute it at one input. -/
def fnExactCellOfWrong : ChangeSpec := { name := "fnExactCellOf", fn := fun _ => fun
  | [d1, d2] => { results := [.lit (.bool false)], args := [d1, d2] }
  | _ => none }
def FnExactCellOfWrongFalsely : Prop := fnExactCellOfRow.holds Try.pinned (OpenSpec.ofChange fnExactCellOfWrong)

/-- 'laws.FnValidLazy': WHATEVER THE INPUT: true; the input reads as it did. -/
def fnValidLazySpec : ChangeSpec := { name := "fnValidLazy", fn := fun _ => fun
  | [d] => { results := [.lit (.bool true)], args := [d] }
  | _ => none }
def fnValidLazyRow : OpenClaim := { program := "ytkmgpbngemdmoaa", sum := "48aa2ef6f1c3fe9918209394057059537035bea6079e7be062bb2f71962dada6", func := "loop.example/refcountml/laws.FnValidLazy", spec := "fnValidLazy", unfollowed := true, recurses := true, apart := false }
def FnValidLazySaid : Prop := fnValidLazyRow.holds Try.pinned (OpenSpec.ofChange fnValidLazySpec)

/-- ITS FALSE NEIGHBOUR: 'it returns false'. Refute it at one input. -/
def fnValidLazyWrong : ChangeSpec := { name := "fnValidLazy", fn := fun _ => fun
  | [d] => { results := [.lit (.bool false)], args := [d] }
  | _ => none }
def FnValidLazyWrongFalsely : Prop := fnValidLazyRow.holds Try.pinned (OpenSpec.ofChange fnValidLazyWrong)

/-- 'laws.FnValidLazyPending': WHATEVER THE INPUT: true; the input reads as it did. -/
def fnValidLazyPendingSpec : ChangeSpec := { name := "fnValidLazyPending", fn := fun _ => fun
  | [d] => { results := [.lit (.bool true)], args := [d] }
  | _ => none }
def fnValidLazyPendingRow : OpenClaim := { program := "ytkmgpbngemdmoaa", sum := "48aa2ef6f1c3fe9918209394057059537035bea6079e7be062bb2f71962dada6", func := "loop.example/refcountml/laws.FnValidLazyPending", spec := "fnValidLazyPending", unfollowed := true, recurses := true, apart := false }
def FnValidLazyPendingSaid : Prop := fnValidLazyPendingRow.holds Try.pinned (OpenSpec.ofChange fnValidLazyPendingSpec)

/-- ITS FALSE NEIGHBOUR: 'it returns false'. Refute it at one input. -/
def fnValidLazyPendingWrong : ChangeSpec := { name := "fnValidLazyPending", fn := fun _ => fun
  | [d] => { results := [.lit (.bool false)], args := [d] }
  | _ => none }
def FnValidLazyPendingWrongFalsely : Prop := fnValidLazyPendingRow.holds Try.pinned (OpenSpec.ofChange fnValidLazyPendingWrong)

/-- 'laws.FnExactUsedFrom': WHATEVER THE INPUT: true; the input reads as it did. -/
def fnExactUsedFromSpec : ChangeSpec := { name := "fnExactUsedFrom", fn := fun _ => fun
  | [d1, d2, d3] => { results := [.lit (.bool true)], args := [d1, d2, d3] }
  | _ => none }
def fnExactUsedFromRow : OpenClaim := { program := "ytkmgpbngemdmoaa", sum := "48aa2ef6f1c3fe9918209394057059537035bea6079e7be062bb2f71962dada6", func := "loop.example/refcountml/laws.FnExactUsedFrom", spec := "fnExactUsedFrom", unfollowed := true, recurses := true, loops := true, apart := false }
def FnExactUsedFromSaid : Prop := fnExactUsedFromRow.holds Try.pinned (OpenSpec.ofChange fnExactUsedFromSpec)

/-- ITS FALSE NEIGHBOUR: 'it returns false'. Refute it at one input. -/
def fnExactUsedFromWrong : ChangeSpec := { name := "fnExactUsedFrom", fn := fun _ => fun
  | [d1, d2, d3] => { results := [.lit (.bool false)], args := [d1, d2, d3] }
  | _ => none }
def FnExactUsedFromWrongFalsely : Prop := fnExactUsedFromRow.holds Try.pinned (OpenSpec.ofChange fnExactUsedFromWrong)

/-- 'laws.FnExactUsedIn': WHATEVER THE INPUT: true; the input reads as it did. -/
def fnExactUsedInSpec : ChangeSpec := { name := "fnExactUsedIn", fn := fun _ => fun
  | [d1, d2] => { results := [.lit (.bool true)], args := [d1, d2] }
  | _ => none }
def fnExactUsedInRow : OpenClaim := { program := "ytkmgpbngemdmoaa", sum := "48aa2ef6f1c3fe9918209394057059537035bea6079e7be062bb2f71962dada6", func := "loop.example/refcountml/laws.FnExactUsedIn", spec := "fnExactUsedIn", unfollowed := true, recurses := true, loops := true, apart := false }
def FnExactUsedInSaid : Prop := fnExactUsedInRow.holds Try.pinned (OpenSpec.ofChange fnExactUsedInSpec)

/-- ITS FALSE NEIGHBOUR: 'it returns false'. Refute it at one input. -/
def fnExactUsedInWrong : ChangeSpec := { name := "fnExactUsedIn", fn := fun _ => fun
  | [d1, d2] => { results := [.lit (.bool false)], args := [d1, d2] }
  | _ => none }
def FnExactUsedInWrongFalsely : Prop := fnExactUsedInRow.holds Try.pinned (OpenSpec.ofChange fnExactUsedInWrong)

/- THE SECOND FORM. 'bulk': how many values and letters a reading holds, each counted each time it is reached (what is shared counts as often as it is met; a slice's spare places count too). A statement '..UptoSaid' is the law's where the arguments, and the package variables that the reading takes, are together of bulk at most 1048576: NARROWER than '..Said'. Prove '..Said' where nothing that the law and all that it calls make is longer than what came in: it says more and counts as full. Else prove '..UptoSaid'. A law counts once. -/
mutual
def uptoBulk {H : Type} : DataW H → Nat
  | .lit (.string bytes) => bytes.length + 1
  | .lit _ => 1
  | .nil => 1
  | .ptr d => uptoBulk d + 1
  | .slice elems spare => uptoBulkAll elems + uptoBulkAll spare + 1
  | .agg parts => uptoBulkAll parts + 1
  | .iface _ d => uptoBulk d + 1
  | .map entries => uptoBulkEntries entries + 1
  | .held _ => 1
def uptoBulkAll {H : Type} : List (DataW H) → Nat
  | [] => 0
  | d :: r => uptoBulk d + uptoBulkAll r
def uptoBulkEntries {H : Type} : List (Lit × DataW H) → Nat
  | [] => 0
  | x :: r => uptoBulkEntry x + uptoBulkEntries r
def uptoBulkEntry {H : Type} : Lit × DataW H → Nat
  | (.string bytes, d) => bytes.length + uptoBulk d + 1
  | (_, d) => uptoBulk d + 1
 end
def uptoSmall : (H : Type) → List (DataW H) → Bool := fun _ ds => decide (uptoBulkAll ds ≤ 1048576)
def OpenSpec.upto (s : _root_.Go.ChangeSpec) : _root_.Go.OpenSpec := { _root_.Go.OpenSpec.ofChange s with cond := some uptoSmall }

/-- 'laws.FnExactUsesOf', WHERE WHAT IT READS IS OF BULK AT MOST 1048576: true; the input reads as it did. -/
def fnExactUsesOfUptoRow : OpenClaim := { program := "ytkmgpbngemdmoaa", sum := "48aa2ef6f1c3fe9918209394057059537035bea6079e7be062bb2f71962dada6", func := "loop.example/refcountml/laws.FnExactUsesOf", spec := "fnExactUsesOf", unfollowed := true, recurses := true, loops := true, apart := false, narrowed := true }
def FnExactUsesOfUptoSaid : Prop := fnExactUsesOfUptoRow.holds Try.pinned (OpenSpec.upto fnExactUsesOfSpec)

/-- 'laws.FnExactLastUse', WHERE WHAT IT READS IS OF BULK AT MOST 1048576: true; the input reads as it did. -/
def fnExactLastUseUptoRow : OpenClaim := { program := "ytkmgpbngemdmoaa", sum := "48aa2ef6f1c3fe9918209394057059537035bea6079e7be062bb2f71962dada6", func := "loop.example/refcountml/laws.FnExactLastUse", spec := "fnExactLastUse", unfollowed := true, recurses := true, loops := true, apart := false, narrowed := true }
def FnExactLastUseUptoSaid : Prop := fnExactLastUseUptoRow.holds Try.pinned (OpenSpec.upto fnExactLastUseSpec)

/-- 'laws.FnExactValidLazy', WHERE WHAT IT READS IS OF BULK AT MOST 1048576: true; the input reads as it did. -/
def fnExactValidLazyUptoRow : OpenClaim := { program := "ytkmgpbngemdmoaa", sum := "48aa2ef6f1c3fe9918209394057059537035bea6079e7be062bb2f71962dada6", func := "loop.example/refcountml/laws.FnExactValidLazy", spec := "fnExactValidLazy", unfollowed := true, recurses := true, apart := false, narrowed := true }
def FnExactValidLazyUptoSaid : Prop := fnExactValidLazyUptoRow.holds Try.pinned (OpenSpec.upto fnExactValidLazySpec)

/-- 'laws.FnExactValidMemory', WHERE WHAT IT READS IS OF BULK AT MOST 1048576: true; the input reads as it did. -/
def fnExactValidMemoryUptoRow : OpenClaim := { program := "ytkmgpbngemdmoaa", sum := "48aa2ef6f1c3fe9918209394057059537035bea6079e7be062bb2f71962dada6", func := "loop.example/refcountml/laws.FnExactValidMemory", spec := "fnExactValidMemory", unfollowed := true, recurses := true, apart := false, narrowed := true }
def FnExactValidMemoryUptoSaid : Prop := fnExactValidMemoryUptoRow.holds Try.pinned (OpenSpec.upto fnExactValidMemorySpec)

/-- 'laws.FnExactCellOf', WHERE WHAT IT READS IS OF BULK AT MOST 1048576: true; the input reads as it did. -/
def fnExactCellOfUptoRow : OpenClaim := { program := "ytkmgpbngemdmoaa", sum := "48aa2ef6f1c3fe9918209394057059537035bea6079e7be062bb2f71962dada6", func := "loop.example/refcountml/laws.FnExactCellOf", spec := "fnExactCellOf", unfollowed := true, recurses := true, apart := false, narrowed := true }
def FnExactCellOfUptoSaid : Prop := fnExactCellOfUptoRow.holds Try.pinned (OpenSpec.upto fnExactCellOfSpec)

/-- 'laws.FnValidLazy', WHERE WHAT IT READS IS OF BULK AT MOST 1048576: true; the input reads as it did. -/
def fnValidLazyUptoRow : OpenClaim := { program := "ytkmgpbngemdmoaa", sum := "48aa2ef6f1c3fe9918209394057059537035bea6079e7be062bb2f71962dada6", func := "loop.example/refcountml/laws.FnValidLazy", spec := "fnValidLazy", unfollowed := true, recurses := true, apart := false, narrowed := true }
def FnValidLazyUptoSaid : Prop := fnValidLazyUptoRow.holds Try.pinned (OpenSpec.upto fnValidLazySpec)

/-- 'laws.FnValidLazyPending', WHERE WHAT IT READS IS OF BULK AT MOST 1048576: true; the input reads as it did. -/
def fnValidLazyPendingUptoRow : OpenClaim := { program := "ytkmgpbngemdmoaa", sum := "48aa2ef6f1c3fe9918209394057059537035bea6079e7be062bb2f71962dada6", func := "loop.example/refcountml/laws.FnValidLazyPending", spec := "fnValidLazyPending", unfollowed := true, recurses := true, apart := false, narrowed := true }
def FnValidLazyPendingUptoSaid : Prop := fnValidLazyPendingUptoRow.holds Try.pinned (OpenSpec.upto fnValidLazyPendingSpec)

/-- 'laws.FnExactUsedFrom', WHERE WHAT IT READS IS OF BULK AT MOST 1048576: true; the input reads as it did. -/
def fnExactUsedFromUptoRow : OpenClaim := { program := "ytkmgpbngemdmoaa", sum := "48aa2ef6f1c3fe9918209394057059537035bea6079e7be062bb2f71962dada6", func := "loop.example/refcountml/laws.FnExactUsedFrom", spec := "fnExactUsedFrom", unfollowed := true, recurses := true, loops := true, apart := false, narrowed := true }
def FnExactUsedFromUptoSaid : Prop := fnExactUsedFromUptoRow.holds Try.pinned (OpenSpec.upto fnExactUsedFromSpec)

/-- 'laws.FnExactUsedIn', WHERE WHAT IT READS IS OF BULK AT MOST 1048576: true; the input reads as it did. -/
def fnExactUsedInUptoRow : OpenClaim := { program := "ytkmgpbngemdmoaa", sum := "48aa2ef6f1c3fe9918209394057059537035bea6079e7be062bb2f71962dada6", func := "loop.example/refcountml/laws.FnExactUsedIn", spec := "fnExactUsedIn", unfollowed := true, recurses := true, loops := true, apart := false, narrowed := true }
def FnExactUsedInUptoSaid : Prop := fnExactUsedInUptoRow.holds Try.pinned (OpenSpec.upto fnExactUsedInSpec)

end Rows
end Go.Proofs.Ytkmgpbngemdmoaa
