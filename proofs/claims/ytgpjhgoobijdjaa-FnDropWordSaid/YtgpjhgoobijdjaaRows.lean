/-
  No cell of these rows narrows 'for every input' (looked for: loops, veiled, ifaces, maps, wideKeys, modest, calm, conditions, laid).
  DERIVED. THE GIVEN ROWS OF THIS SEAT. 19 by the template 'for every input the law returns true; each argument reads behind the call as it read before'; 0 by the template 'total and deterministic' (their statements: YtgpjhgoobijdjaaTotals.lean).
  GIVEN WITH THE SEED: the statements are not yours to turn. If you find one false, say at which input.
  Laid BY PROGRAM, IN A SANDBOX (cutbox-rows.mjs): the forced cells as the released guide's own fill.sh prints them over the translation a313448d210b730e… (all of the seat's roots in one cut). By AI agents, Wed Nov 11 2026. No macro, syntax, notation, axiom, sorry.
-/
import Derived.Test.YtgpjhgoobijdjaaChecked
import GoSem.Claim
import GoSem.ClaimJoined
import GoSem.ClaimMapViews
import Derived.JoinedTies
import Derived.KernelRfl
namespace Go.Proofs.Ytgpjhgoobijdjaa
/- THE CELL 'sum', in the pinned program and in every row, IS THE sha256 OF THE DUMP (.gsa) THAT YtgpjhgoobijdjaaProg.lean LOADS. Nothing in Lean hashes anything: it is a label: what it is worth is what the hold of that sum in a sandbox is worth. -/
noncomputable def Try.pinned : Pinned := { name := "ytgpjhgoobijdjaa", sum := "a313448d210b730eb3b58cf046d42b5fba7b85402b7fd9f8cf8cdb18f84cd6b3", checked := Try.checked }
namespace Rows
def none {H : Type} : Left H := { results := [], args := [] }

/-- 'laws.FnExactValidHeap': WHATEVER THE INPUT: true; the input reads as it did. -/
def fnExactValidHeapSpec : ChangeSpec := { name := "fnExactValidHeap", fn := fun _ => fun
  | [d] => { results := [.lit (.bool true)], args := [d] }
  | _ => none }
def fnExactValidHeapRow : OpenClaim := { program := "ytgpjhgoobijdjaa", sum := "a313448d210b730eb3b58cf046d42b5fba7b85402b7fd9f8cf8cdb18f84cd6b3", func := "loop.example/refcountml/laws.FnExactValidHeap", spec := "fnExactValidHeap", apart := false }
def FnExactValidHeapSaid : Prop := fnExactValidHeapRow.holds Try.pinned (OpenSpec.ofChange fnExactValidHeapSpec)

/-- ITS FALSE NEIGHBOUR: 'it returns false'. Refute it at one input. -/
def fnExactValidHeapWrong : ChangeSpec := { name := "fnExactValidHeap", fn := fun _ => fun
  | [d] => { results := [.lit (.bool false)], args := [d] }
  | _ => none }
def FnExactValidHeapWrongFalsely : Prop := fnExactValidHeapRow.holds Try.pinned (OpenSpec.ofChange fnExactValidHeapWrong)

/-- 'laws.FnExactRefsOf': WHATEVER THE INPUT: true; the input reads as it did. -/
def fnExactRefsOfSpec : ChangeSpec := { name := "fnExactRefsOf", fn := fun _ => fun
  | [d1, d2] => { results := [.lit (.bool true)], args := [d1, d2] }
  | _ => none }
def fnExactRefsOfRow : OpenClaim := { program := "ytgpjhgoobijdjaa", sum := "a313448d210b730eb3b58cf046d42b5fba7b85402b7fd9f8cf8cdb18f84cd6b3", func := "loop.example/refcountml/laws.FnExactRefsOf", spec := "fnExactRefsOf", apart := false }
def FnExactRefsOfSaid : Prop := fnExactRefsOfRow.holds Try.pinned (OpenSpec.ofChange fnExactRefsOfSpec)

/-- ITS FALSE NEIGHBOUR: 'it returns false'. Refute it at one input. -/
def fnExactRefsOfWrong : ChangeSpec := { name := "fnExactRefsOf", fn := fun _ => fun
  | [d1, d2] => { results := [.lit (.bool false)], args := [d1, d2] }
  | _ => none }
def FnExactRefsOfWrongFalsely : Prop := fnExactRefsOfRow.holds Try.pinned (OpenSpec.ofChange fnExactRefsOfWrong)

/-- 'laws.FnExactLiveCells': WHATEVER THE INPUT: true; the input reads as it did. -/
def fnExactLiveCellsSpec : ChangeSpec := { name := "fnExactLiveCells", fn := fun _ => fun
  | [d] => { results := [.lit (.bool true)], args := [d] }
  | _ => none }
def fnExactLiveCellsRow : OpenClaim := { program := "ytgpjhgoobijdjaa", sum := "a313448d210b730eb3b58cf046d42b5fba7b85402b7fd9f8cf8cdb18f84cd6b3", func := "loop.example/refcountml/laws.FnExactLiveCells", spec := "fnExactLiveCells", apart := false }
def FnExactLiveCellsSaid : Prop := fnExactLiveCellsRow.holds Try.pinned (OpenSpec.ofChange fnExactLiveCellsSpec)

/-- ITS FALSE NEIGHBOUR: 'it returns false'. Refute it at one input. -/
def fnExactLiveCellsWrong : ChangeSpec := { name := "fnExactLiveCells", fn := fun _ => fun
  | [d] => { results := [.lit (.bool false)], args := [d] }
  | _ => none }
def FnExactLiveCellsWrongFalsely : Prop := fnExactLiveCellsRow.holds Try.pinned (OpenSpec.ofChange fnExactLiveCellsWrong)

/-- 'laws.FnExactReachOf': WHATEVER THE INPUT: true; the input reads as it did. -/
def fnExactReachOfSpec : ChangeSpec := { name := "fnExactReachOf", fn := fun _ => fun
  | [d1, d2] => { results := [.lit (.bool true)], args := [d1, d2] }
  | _ => none }
def fnExactReachOfRow : OpenClaim := { program := "ytgpjhgoobijdjaa", sum := "a313448d210b730eb3b58cf046d42b5fba7b85402b7fd9f8cf8cdb18f84cd6b3", func := "loop.example/refcountml/laws.FnExactReachOf", spec := "fnExactReachOf", apart := false }
def FnExactReachOfSaid : Prop := fnExactReachOfRow.holds Try.pinned (OpenSpec.ofChange fnExactReachOfSpec)

/-- ITS FALSE NEIGHBOUR: 'it returns false'. Refute it at one input. -/
def fnExactReachOfWrong : ChangeSpec := { name := "fnExactReachOf", fn := fun _ => fun
  | [d1, d2] => { results := [.lit (.bool false)], args := [d1, d2] }
  | _ => none }
def FnExactReachOfWrongFalsely : Prop := fnExactReachOfRow.holds Try.pinned (OpenSpec.ofChange fnExactReachOfWrong)

/-- 'laws.FnValidHeap': WHATEVER THE INPUT: true; the input reads as it did. -/
def fnValidHeapSpec : ChangeSpec := { name := "fnValidHeap", fn := fun _ => fun
  | [d] => { results := [.lit (.bool true)], args := [d] }
  | _ => none }
def fnValidHeapRow : OpenClaim := { program := "ytgpjhgoobijdjaa", sum := "a313448d210b730eb3b58cf046d42b5fba7b85402b7fd9f8cf8cdb18f84cd6b3", func := "loop.example/refcountml/laws.FnValidHeap", spec := "fnValidHeap", apart := false }
def FnValidHeapSaid : Prop := fnValidHeapRow.holds Try.pinned (OpenSpec.ofChange fnValidHeapSpec)

/-- ITS FALSE NEIGHBOUR: 'it returns false'. Refute it at one input. -/
def fnValidHeapWrong : ChangeSpec := { name := "fnValidHeap", fn := fun _ => fun
  | [d] => { results := [.lit (.bool false)], args := [d] }
  | _ => none }
def FnValidHeapWrongFalsely : Prop := fnValidHeapRow.holds Try.pinned (OpenSpec.ofChange fnValidHeapWrong)

/-- 'laws.FnExactDupWord': WHATEVER THE INPUT: true; the input reads as it did. -/
def fnExactDupWordSpec : ChangeSpec := { name := "fnExactDupWord", fn := fun _ => fun
  | [d1, d2] => { results := [.lit (.bool true)], args := [d1, d2] }
  | _ => none }
def fnExactDupWordRow : OpenClaim := { program := "ytgpjhgoobijdjaa", sum := "a313448d210b730eb3b58cf046d42b5fba7b85402b7fd9f8cf8cdb18f84cd6b3", func := "loop.example/refcountml/laws.FnExactDupWord", spec := "fnExactDupWord", apart := false }
def FnExactDupWordSaid : Prop := fnExactDupWordRow.holds Try.pinned (OpenSpec.ofChange fnExactDupWordSpec)

/-- ITS FALSE NEIGHBOUR: 'it returns false'. Refute it at one input. -/
def fnExactDupWordWrong : ChangeSpec := { name := "fnExactDupWord", fn := fun _ => fun
  | [d1, d2] => { results := [.lit (.bool false)], args := [d1, d2] }
  | _ => none }
def FnExactDupWordWrongFalsely : Prop := fnExactDupWordRow.holds Try.pinned (OpenSpec.ofChange fnExactDupWordWrong)

/-- 'laws.FnRefsOf': WHATEVER THE INPUT: true; the input reads as it did. -/
def fnRefsOfSpec : ChangeSpec := { name := "fnRefsOf", fn := fun _ => fun
  | [d] => { results := [.lit (.bool true)], args := [d] }
  | _ => none }
def fnRefsOfRow : OpenClaim := { program := "ytgpjhgoobijdjaa", sum := "a313448d210b730eb3b58cf046d42b5fba7b85402b7fd9f8cf8cdb18f84cd6b3", func := "loop.example/refcountml/laws.FnRefsOf", spec := "fnRefsOf", apart := false }
def FnRefsOfSaid : Prop := fnRefsOfRow.holds Try.pinned (OpenSpec.ofChange fnRefsOfSpec)

/-- ITS FALSE NEIGHBOUR: 'it returns false'. Refute it at one input. -/
def fnRefsOfWrong : ChangeSpec := { name := "fnRefsOf", fn := fun _ => fun
  | [d] => { results := [.lit (.bool false)], args := [d] }
  | _ => none }
def FnRefsOfWrongFalsely : Prop := fnRefsOfRow.holds Try.pinned (OpenSpec.ofChange fnRefsOfWrong)

/-- 'laws.FnRefsOfAll': WHATEVER THE INPUT: true; the input reads as it did. -/
def fnRefsOfAllSpec : ChangeSpec := { name := "fnRefsOfAll", fn := fun _ => fun
  | [d] => { results := [.lit (.bool true)], args := [d] }
  | _ => none }
def fnRefsOfAllRow : OpenClaim := { program := "ytgpjhgoobijdjaa", sum := "a313448d210b730eb3b58cf046d42b5fba7b85402b7fd9f8cf8cdb18f84cd6b3", func := "loop.example/refcountml/laws.FnRefsOfAll", spec := "fnRefsOfAll", apart := false }
def FnRefsOfAllSaid : Prop := fnRefsOfAllRow.holds Try.pinned (OpenSpec.ofChange fnRefsOfAllSpec)

/-- ITS FALSE NEIGHBOUR: 'it returns false'. Refute it at one input. -/
def fnRefsOfAllWrong : ChangeSpec := { name := "fnRefsOfAll", fn := fun _ => fun
  | [d] => { results := [.lit (.bool false)], args := [d] }
  | _ => none }
def FnRefsOfAllWrongFalsely : Prop := fnRefsOfAllRow.holds Try.pinned (OpenSpec.ofChange fnRefsOfAllWrong)

/-- 'laws.FnExactAllocCell': WHATEVER THE INPUT: true; the input reads as it did. -/
def fnExactAllocCellSpec : ChangeSpec := { name := "fnExactAllocCell", fn := fun _ => fun
  | [d1, d2, d3] => { results := [.lit (.bool true)], args := [d1, d2, d3] }
  | _ => none }
def fnExactAllocCellRow : OpenClaim := { program := "ytgpjhgoobijdjaa", sum := "a313448d210b730eb3b58cf046d42b5fba7b85402b7fd9f8cf8cdb18f84cd6b3", func := "loop.example/refcountml/laws.FnExactAllocCell", spec := "fnExactAllocCell", unfollowed := true, recurses := true, apart := false }
def FnExactAllocCellSaid : Prop := fnExactAllocCellRow.holds Try.pinned (OpenSpec.ofChange fnExactAllocCellSpec)

/-- ITS FALSE NEIGHBOUR: 'it returns false'. Refute it at one input. -/
def fnExactAllocCellWrong : ChangeSpec := { name := "fnExactAllocCell", fn := fun _ => fun
  | [d1, d2, d3] => { results := [.lit (.bool false)], args := [d1, d2, d3] }
  | _ => none }
def FnExactAllocCellWrongFalsely : Prop := fnExactAllocCellRow.holds Try.pinned (OpenSpec.ofChange fnExactAllocCellWrong)

/-- 'laws.FnExactDropWord': WHATEVER THE INPUT: true; the input reads as it did. -/
def fnExactDropWordSpec : ChangeSpec := { name := "fnExactDropWord", fn := fun _ => fun
  | [d1, d2] => { results := [.lit (.bool true)], args := [d1, d2] }
  | _ => none }
def fnExactDropWordRow : OpenClaim := { program := "ytgpjhgoobijdjaa", sum := "a313448d210b730eb3b58cf046d42b5fba7b85402b7fd9f8cf8cdb18f84cd6b3", func := "loop.example/refcountml/laws.FnExactDropWord", spec := "fnExactDropWord", apart := false }
def FnExactDropWordSaid : Prop := fnExactDropWordRow.holds Try.pinned (OpenSpec.ofChange fnExactDropWordSpec)

/-- ITS FALSE NEIGHBOUR: 'it returns false'. Refute it at one input. -/
def fnExactDropWordWrong : ChangeSpec := { name := "fnExactDropWord", fn := fun _ => fun
  | [d1, d2] => { results := [.lit (.bool false)], args := [d1, d2] }
  | _ => none }
def FnExactDropWordWrongFalsely : Prop := fnExactDropWordRow.holds Try.pinned (OpenSpec.ofChange fnExactDropWordWrong)

/-- 'laws.FnLiveCells': WHATEVER THE INPUT: true; the input reads as it did. -/
def fnLiveCellsSpec : ChangeSpec := { name := "fnLiveCells", fn := fun _ => fun
  | [d] => { results := [.lit (.bool true)], args := [d] }
  | _ => none }
def fnLiveCellsRow : OpenClaim := { program := "ytgpjhgoobijdjaa", sum := "a313448d210b730eb3b58cf046d42b5fba7b85402b7fd9f8cf8cdb18f84cd6b3", func := "loop.example/refcountml/laws.FnLiveCells", spec := "fnLiveCells", apart := false }
def FnLiveCellsSaid : Prop := fnLiveCellsRow.holds Try.pinned (OpenSpec.ofChange fnLiveCellsSpec)

/-- ITS FALSE NEIGHBOUR: 'it returns false'. Refute it at one input. -/
def fnLiveCellsWrong : ChangeSpec := { name := "fnLiveCells", fn := fun _ => fun
  | [d] => { results := [.lit (.bool false)], args := [d] }
  | _ => none }
def FnLiveCellsWrongFalsely : Prop := fnLiveCellsRow.holds Try.pinned (OpenSpec.ofChange fnLiveCellsWrong)

/-- 'laws.FnAllocCellFirst': WHATEVER THE INPUT: true; the input reads as it did. -/
def fnAllocCellFirstSpec : ChangeSpec := { name := "fnAllocCellFirst", fn := fun _ => fun
  | [d] => { results := [.lit (.bool true)], args := [d] }
  | _ => none }
def fnAllocCellFirstRow : OpenClaim := { program := "ytgpjhgoobijdjaa", sum := "a313448d210b730eb3b58cf046d42b5fba7b85402b7fd9f8cf8cdb18f84cd6b3", func := "loop.example/refcountml/laws.FnAllocCellFirst", spec := "fnAllocCellFirst", unfollowed := true, recurses := true, apart := false }
def FnAllocCellFirstSaid : Prop := fnAllocCellFirstRow.holds Try.pinned (OpenSpec.ofChange fnAllocCellFirstSpec)

/-- ITS FALSE NEIGHBOUR: 'it returns false'. Refute it at one input. -/
def fnAllocCellFirstWrong : ChangeSpec := { name := "fnAllocCellFirst", fn := fun _ => fun
  | [d] => { results := [.lit (.bool false)], args := [d] }
  | _ => none }
def FnAllocCellFirstWrongFalsely : Prop := fnAllocCellFirstRow.holds Try.pinned (OpenSpec.ofChange fnAllocCellFirstWrong)

/-- 'laws.FnDropWordOrder': WHATEVER THE INPUT: true; the input reads as it did. -/
def fnDropWordOrderSpec : ChangeSpec := { name := "fnDropWordOrder", fn := fun _ => fun
  | [d] => { results := [.lit (.bool true)], args := [d] }
  | _ => none }
def fnDropWordOrderRow : OpenClaim := { program := "ytgpjhgoobijdjaa", sum := "a313448d210b730eb3b58cf046d42b5fba7b85402b7fd9f8cf8cdb18f84cd6b3", func := "loop.example/refcountml/laws.FnDropWordOrder", spec := "fnDropWordOrder", apart := false }
def FnDropWordOrderSaid : Prop := fnDropWordOrderRow.holds Try.pinned (OpenSpec.ofChange fnDropWordOrderSpec)

/-- ITS FALSE NEIGHBOUR: 'it returns false'. Refute it at one input. -/
def fnDropWordOrderWrong : ChangeSpec := { name := "fnDropWordOrder", fn := fun _ => fun
  | [d] => { results := [.lit (.bool false)], args := [d] }
  | _ => none }
def FnDropWordOrderWrongFalsely : Prop := fnDropWordOrderRow.holds Try.pinned (OpenSpec.ofChange fnDropWordOrderWrong)

/-- 'laws.FnDropWordOuter': WHATEVER THE INPUT: true; the input reads as it did. -/
def fnDropWordOuterSpec : ChangeSpec := { name := "fnDropWordOuter", fn := fun _ => fun
  | [d] => { results := [.lit (.bool true)], args := [d] }
  | _ => none }
def fnDropWordOuterRow : OpenClaim := { program := "ytgpjhgoobijdjaa", sum := "a313448d210b730eb3b58cf046d42b5fba7b85402b7fd9f8cf8cdb18f84cd6b3", func := "loop.example/refcountml/laws.FnDropWordOuter", spec := "fnDropWordOuter", apart := false }
def FnDropWordOuterSaid : Prop := fnDropWordOuterRow.holds Try.pinned (OpenSpec.ofChange fnDropWordOuterSpec)

/-- ITS FALSE NEIGHBOUR: 'it returns false'. Refute it at one input. -/
def fnDropWordOuterWrong : ChangeSpec := { name := "fnDropWordOuter", fn := fun _ => fun
  | [d] => { results := [.lit (.bool false)], args := [d] }
  | _ => none }
def FnDropWordOuterWrongFalsely : Prop := fnDropWordOuterRow.holds Try.pinned (OpenSpec.ofChange fnDropWordOuterWrong)

/-- 'laws.FnReachOf': WHATEVER THE INPUT: true; the input reads as it did. -/
def fnReachOfSpec : ChangeSpec := { name := "fnReachOf", fn := fun _ => fun
  | [d] => { results := [.lit (.bool true)], args := [d] }
  | _ => none }
def fnReachOfRow : OpenClaim := { program := "ytgpjhgoobijdjaa", sum := "a313448d210b730eb3b58cf046d42b5fba7b85402b7fd9f8cf8cdb18f84cd6b3", func := "loop.example/refcountml/laws.FnReachOf", spec := "fnReachOf", apart := false }
def FnReachOfSaid : Prop := fnReachOfRow.holds Try.pinned (OpenSpec.ofChange fnReachOfSpec)

/-- ITS FALSE NEIGHBOUR: 'it returns false'. Refute it at one input. -/
def fnReachOfWrong : ChangeSpec := { name := "fnReachOf", fn := fun _ => fun
  | [d] => { results := [.lit (.bool false)], args := [d] }
  | _ => none }
def FnReachOfWrongFalsely : Prop := fnReachOfRow.holds Try.pinned (OpenSpec.ofChange fnReachOfWrong)

/-- 'laws.FnAllocCell': WHATEVER THE INPUT: true; the input reads as it did. -/
def fnAllocCellSpec : ChangeSpec := { name := "fnAllocCell", fn := fun _ => fun
  | [d] => { results := [.lit (.bool true)], args := [d] }
  | _ => none }
def fnAllocCellRow : OpenClaim := { program := "ytgpjhgoobijdjaa", sum := "a313448d210b730eb3b58cf046d42b5fba7b85402b7fd9f8cf8cdb18f84cd6b3", func := "loop.example/refcountml/laws.FnAllocCell", spec := "fnAllocCell", unfollowed := true, recurses := true, apart := false }
def FnAllocCellSaid : Prop := fnAllocCellRow.holds Try.pinned (OpenSpec.ofChange fnAllocCellSpec)

/-- ITS FALSE NEIGHBOUR: 'it returns false'. Refute it at one input. -/
def fnAllocCellWrong : ChangeSpec := { name := "fnAllocCell", fn := fun _ => fun
  | [d] => { results := [.lit (.bool false)], args := [d] }
  | _ => none }
def FnAllocCellWrongFalsely : Prop := fnAllocCellRow.holds Try.pinned (OpenSpec.ofChange fnAllocCellWrong)

/-- 'laws.FnDupWord': WHATEVER THE INPUT: true; the input reads as it did. -/
def fnDupWordSpec : ChangeSpec := { name := "fnDupWord", fn := fun _ => fun
  | [d] => { results := [.lit (.bool true)], args := [d] }
  | _ => none }
def fnDupWordRow : OpenClaim := { program := "ytgpjhgoobijdjaa", sum := "a313448d210b730eb3b58cf046d42b5fba7b85402b7fd9f8cf8cdb18f84cd6b3", func := "loop.example/refcountml/laws.FnDupWord", spec := "fnDupWord", apart := false }
def FnDupWordSaid : Prop := fnDupWordRow.holds Try.pinned (OpenSpec.ofChange fnDupWordSpec)

/-- ITS FALSE NEIGHBOUR: 'it returns false'. Refute it at one input. -/
def fnDupWordWrong : ChangeSpec := { name := "fnDupWord", fn := fun _ => fun
  | [d] => { results := [.lit (.bool false)], args := [d] }
  | _ => none }
def FnDupWordWrongFalsely : Prop := fnDupWordRow.holds Try.pinned (OpenSpec.ofChange fnDupWordWrong)

/-- 'laws.FnAllocCellDrop': WHATEVER THE INPUT: true; the input reads as it did. -/
def fnAllocCellDropSpec : ChangeSpec := { name := "fnAllocCellDrop", fn := fun _ => fun
  | [d] => { results := [.lit (.bool true)], args := [d] }
  | _ => none }
def fnAllocCellDropRow : OpenClaim := { program := "ytgpjhgoobijdjaa", sum := "a313448d210b730eb3b58cf046d42b5fba7b85402b7fd9f8cf8cdb18f84cd6b3", func := "loop.example/refcountml/laws.FnAllocCellDrop", spec := "fnAllocCellDrop", unfollowed := true, recurses := true, apart := false }
def FnAllocCellDropSaid : Prop := fnAllocCellDropRow.holds Try.pinned (OpenSpec.ofChange fnAllocCellDropSpec)

/-- ITS FALSE NEIGHBOUR: 'it returns false'. Refute it at one input. -/
def fnAllocCellDropWrong : ChangeSpec := { name := "fnAllocCellDrop", fn := fun _ => fun
  | [d] => { results := [.lit (.bool false)], args := [d] }
  | _ => none }
def FnAllocCellDropWrongFalsely : Prop := fnAllocCellDropRow.holds Try.pinned (OpenSpec.ofChange fnAllocCellDropWrong)

/-- 'laws.FnDropWord': WHATEVER THE INPUT: true; the input reads as it did. -/
def fnDropWordSpec : ChangeSpec := { name := "fnDropWord", fn := fun _ => fun
  | [d] => { results := [.lit (.bool true)], args := [d] }
  | _ => none }
def fnDropWordRow : OpenClaim := { program := "ytgpjhgoobijdjaa", sum := "a313448d210b730eb3b58cf046d42b5fba7b85402b7fd9f8cf8cdb18f84cd6b3", func := "loop.example/refcountml/laws.FnDropWord", spec := "fnDropWord", apart := false }
def FnDropWordSaid : Prop := fnDropWordRow.holds Try.pinned (OpenSpec.ofChange fnDropWordSpec)

/-- ITS FALSE NEIGHBOUR: 'it returns false'. Refute it at one input. -/
def fnDropWordWrong : ChangeSpec := { name := "fnDropWord", fn := fun _ => fun
  | [d] => { results := [.lit (.bool false)], args := [d] }
  | _ => none }
def FnDropWordWrongFalsely : Prop := fnDropWordRow.holds Try.pinned (OpenSpec.ofChange fnDropWordWrong)

/- THE SECOND FORM. 'bulk': how many values and letters a reading holds, each counted each time it is reached (what is shared counts as often as it is met; a slice's spare places count too). A statement '..UptoSaid' is the law's where the arguments, and the package variables that the reading takes, are together of bulk at most 1048576: NARROWER than '..Said'. Prove '..Said' where nothing that the law and all that it calls make is longer than what came in: it says more and counts as full. Else prove '..UptoSaid'. A law counts once. -/
mutual
def uptoBulk {H : Type} : DataW H → Nat
  | .lit (.string bytes) => bytes.length + 1
  | .lit _ => 1
  | .nil => 1
  | .ptr d => uptoBulk d + 1
  | .slice elems spare => uptoBulkAll elems + uptoBulkAll spare + 1
  | .agg parts => uptoBulkAll parts + 1
  | .iface _ d => uptoBulk d + 1
  | .map entries => uptoBulkEntries entries + 1
  | .held _ => 1
def uptoBulkAll {H : Type} : List (DataW H) → Nat
  | [] => 0
  | d :: r => uptoBulk d + uptoBulkAll r
def uptoBulkEntries {H : Type} : List (Lit × DataW H) → Nat
  | [] => 0
  | x :: r => uptoBulkEntry x + uptoBulkEntries r
def uptoBulkEntry {H : Type} : Lit × DataW H → Nat
  | (.string bytes, d) => bytes.length + uptoBulk d + 1
  | (_, d) => uptoBulk d + 1
 end
def uptoSmall : (H : Type) → List (DataW H) → Bool := fun _ ds => decide (uptoBulkAll ds ≤ 1048576)
def OpenSpec.upto (s : _root_.Go.ChangeSpec) : _root_.Go.OpenSpec := { _root_.Go.OpenSpec.ofChange s with cond := some uptoSmall }

/-- 'laws.FnExactValidHeap', WHERE WHAT IT READS IS OF BULK AT MOST 1048576: true; the input reads as it did. -/
def fnExactValidHeapUptoRow : OpenClaim := { program := "ytgpjhgoobijdjaa", sum := "a313448d210b730eb3b58cf046d42b5fba7b85402b7fd9f8cf8cdb18f84cd6b3", func := "loop.example/refcountml/laws.FnExactValidHeap", spec := "fnExactValidHeap", apart := false, narrowed := true }
def FnExactValidHeapUptoSaid : Prop := fnExactValidHeapUptoRow.holds Try.pinned (OpenSpec.upto fnExactValidHeapSpec)

/-- 'laws.FnExactRefsOf', WHERE WHAT IT READS IS OF BULK AT MOST 1048576: true; the input reads as it did. -/
def fnExactRefsOfUptoRow : OpenClaim := { program := "ytgpjhgoobijdjaa", sum := "a313448d210b730eb3b58cf046d42b5fba7b85402b7fd9f8cf8cdb18f84cd6b3", func := "loop.example/refcountml/laws.FnExactRefsOf", spec := "fnExactRefsOf", apart := false, narrowed := true }
def FnExactRefsOfUptoSaid : Prop := fnExactRefsOfUptoRow.holds Try.pinned (OpenSpec.upto fnExactRefsOfSpec)

/-- 'laws.FnExactLiveCells', WHERE WHAT IT READS IS OF BULK AT MOST 1048576: true; the input reads as it did. -/
def fnExactLiveCellsUptoRow : OpenClaim := { program := "ytgpjhgoobijdjaa", sum := "a313448d210b730eb3b58cf046d42b5fba7b85402b7fd9f8cf8cdb18f84cd6b3", func := "loop.example/refcountml/laws.FnExactLiveCells", spec := "fnExactLiveCells", apart := false, narrowed := true }
def FnExactLiveCellsUptoSaid : Prop := fnExactLiveCellsUptoRow.holds Try.pinned (OpenSpec.upto fnExactLiveCellsSpec)

/-- 'laws.FnExactReachOf', WHERE WHAT IT READS IS OF BULK AT MOST 1048576: true; the input reads as it did. -/
def fnExactReachOfUptoRow : OpenClaim := { program := "ytgpjhgoobijdjaa", sum := "a313448d210b730eb3b58cf046d42b5fba7b85402b7fd9f8cf8cdb18f84cd6b3", func := "loop.example/refcountml/laws.FnExactReachOf", spec := "fnExactReachOf", apart := false, narrowed := true }
def FnExactReachOfUptoSaid : Prop := fnExactReachOfUptoRow.holds Try.pinned (OpenSpec.upto fnExactReachOfSpec)

/-- 'laws.FnValidHeap', WHERE WHAT IT READS IS OF BULK AT MOST 1048576: true; the input reads as it did. -/
def fnValidHeapUptoRow : OpenClaim := { program := "ytgpjhgoobijdjaa", sum := "a313448d210b730eb3b58cf046d42b5fba7b85402b7fd9f8cf8cdb18f84cd6b3", func := "loop.example/refcountml/laws.FnValidHeap", spec := "fnValidHeap", apart := false, narrowed := true }
def FnValidHeapUptoSaid : Prop := fnValidHeapUptoRow.holds Try.pinned (OpenSpec.upto fnValidHeapSpec)

/-- 'laws.FnExactDupWord', WHERE WHAT IT READS IS OF BULK AT MOST 1048576: true; the input reads as it did. -/
def fnExactDupWordUptoRow : OpenClaim := { program := "ytgpjhgoobijdjaa", sum := "a313448d210b730eb3b58cf046d42b5fba7b85402b7fd9f8cf8cdb18f84cd6b3", func := "loop.example/refcountml/laws.FnExactDupWord", spec := "fnExactDupWord", apart := false, narrowed := true }
def FnExactDupWordUptoSaid : Prop := fnExactDupWordUptoRow.holds Try.pinned (OpenSpec.upto fnExactDupWordSpec)

/-- 'laws.FnRefsOf', WHERE WHAT IT READS IS OF BULK AT MOST 1048576: true; the input reads as it did. -/
def fnRefsOfUptoRow : OpenClaim := { program := "ytgpjhgoobijdjaa", sum := "a313448d210b730eb3b58cf046d42b5fba7b85402b7fd9f8cf8cdb18f84cd6b3", func := "loop.example/refcountml/laws.FnRefsOf", spec := "fnRefsOf", apart := false, narrowed := true }
def FnRefsOfUptoSaid : Prop := fnRefsOfUptoRow.holds Try.pinned (OpenSpec.upto fnRefsOfSpec)

/-- 'laws.FnRefsOfAll', WHERE WHAT IT READS IS OF BULK AT MOST 1048576: true; the input reads as it did. -/
def fnRefsOfAllUptoRow : OpenClaim := { program := "ytgpjhgoobijdjaa", sum := "a313448d210b730eb3b58cf046d42b5fba7b85402b7fd9f8cf8cdb18f84cd6b3", func := "loop.example/refcountml/laws.FnRefsOfAll", spec := "fnRefsOfAll", apart := false, narrowed := true }
def FnRefsOfAllUptoSaid : Prop := fnRefsOfAllUptoRow.holds Try.pinned (OpenSpec.upto fnRefsOfAllSpec)

/-- 'laws.FnExactAllocCell', WHERE WHAT IT READS IS OF BULK AT MOST 1048576: true; the input reads as it did. -/
def fnExactAllocCellUptoRow : OpenClaim := { program := "ytgpjhgoobijdjaa", sum := "a313448d210b730eb3b58cf046d42b5fba7b85402b7fd9f8cf8cdb18f84cd6b3", func := "loop.example/refcountml/laws.FnExactAllocCell", spec := "fnExactAllocCell", unfollowed := true, recurses := true, apart := false, narrowed := true }
def FnExactAllocCellUptoSaid : Prop := fnExactAllocCellUptoRow.holds Try.pinned (OpenSpec.upto fnExactAllocCellSpec)

/-- 'laws.FnExactDropWord', WHERE WHAT IT READS IS OF BULK AT MOST 1048576: true; the input reads as it did. -/
def fnExactDropWordUptoRow : OpenClaim := { program := "ytgpjhgoobijdjaa", sum := "a313448d210b730eb3b58cf046d42b5fba7b85402b7fd9f8cf8cdb18f84cd6b3", func := "loop.example/refcountml/laws.FnExactDropWord", spec := "fnExactDropWord", apart := false, narrowed := true }
def FnExactDropWordUptoSaid : Prop := fnExactDropWordUptoRow.holds Try.pinned (OpenSpec.upto fnExactDropWordSpec)

/-- 'laws.FnLiveCells', WHERE WHAT IT READS IS OF BULK AT MOST 1048576: true; the input reads as it did. -/
def fnLiveCellsUptoRow : OpenClaim := { program := "ytgpjhgoobijdjaa", sum := "a313448d210b730eb3b58cf046d42b5fba7b85402b7fd9f8cf8cdb18f84cd6b3", func := "loop.example/refcountml/laws.FnLiveCells", spec := "fnLiveCells", apart := false, narrowed := true }
def FnLiveCellsUptoSaid : Prop := fnLiveCellsUptoRow.holds Try.pinned (OpenSpec.upto fnLiveCellsSpec)

/-- 'laws.FnAllocCellFirst', WHERE WHAT IT READS IS OF BULK AT MOST 1048576: true; the input reads as it did. -/
def fnAllocCellFirstUptoRow : OpenClaim := { program := "ytgpjhgoobijdjaa", sum := "a313448d210b730eb3b58cf046d42b5fba7b85402b7fd9f8cf8cdb18f84cd6b3", func := "loop.example/refcountml/laws.FnAllocCellFirst", spec := "fnAllocCellFirst", unfollowed := true, recurses := true, apart := false, narrowed := true }
def FnAllocCellFirstUptoSaid : Prop := fnAllocCellFirstUptoRow.holds Try.pinned (OpenSpec.upto fnAllocCellFirstSpec)

/-- 'laws.FnDropWordOrder', WHERE WHAT IT READS IS OF BULK AT MOST 1048576: true; the input reads as it did. -/
def fnDropWordOrderUptoRow : OpenClaim := { program := "ytgpjhgoobijdjaa", sum := "a313448d210b730eb3b58cf046d42b5fba7b85402b7fd9f8cf8cdb18f84cd6b3", func := "loop.example/refcountml/laws.FnDropWordOrder", spec := "fnDropWordOrder", apart := false, narrowed := true }
def FnDropWordOrderUptoSaid : Prop := fnDropWordOrderUptoRow.holds Try.pinned (OpenSpec.upto fnDropWordOrderSpec)

/-- 'laws.FnDropWordOuter', WHERE WHAT IT READS IS OF BULK AT MOST 1048576: true; the input reads as it did. -/
def fnDropWordOuterUptoRow : OpenClaim := { program := "ytgpjhgoobijdjaa", sum := "a313448d210b730eb3b58cf046d42b5fba7b85402b7fd9f8cf8cdb18f84cd6b3", func := "loop.example/refcountml/laws.FnDropWordOuter", spec := "fnDropWordOuter", apart := false, narrowed := true }
def FnDropWordOuterUptoSaid : Prop := fnDropWordOuterUptoRow.holds Try.pinned (OpenSpec.upto fnDropWordOuterSpec)

/-- 'laws.FnReachOf', WHERE WHAT IT READS IS OF BULK AT MOST 1048576: true; the input reads as it did. -/
def fnReachOfUptoRow : OpenClaim := { program := "ytgpjhgoobijdjaa", sum := "a313448d210b730eb3b58cf046d42b5fba7b85402b7fd9f8cf8cdb18f84cd6b3", func := "loop.example/refcountml/laws.FnReachOf", spec := "fnReachOf", apart := false, narrowed := true }
def FnReachOfUptoSaid : Prop := fnReachOfUptoRow.holds Try.pinned (OpenSpec.upto fnReachOfSpec)

/-- 'laws.FnAllocCell', WHERE WHAT IT READS IS OF BULK AT MOST 1048576: true; the input reads as it did. -/
def fnAllocCellUptoRow : OpenClaim := { program := "ytgpjhgoobijdjaa", sum := "a313448d210b730eb3b58cf046d42b5fba7b85402b7fd9f8cf8cdb18f84cd6b3", func := "loop.example/refcountml/laws.FnAllocCell", spec := "fnAllocCell", unfollowed := true, recurses := true, apart := false, narrowed := true }
def FnAllocCellUptoSaid : Prop := fnAllocCellUptoRow.holds Try.pinned (OpenSpec.upto fnAllocCellSpec)

/-- 'laws.FnDupWord', WHERE WHAT IT READS IS OF BULK AT MOST 1048576: true; the input reads as it did. -/
def fnDupWordUptoRow : OpenClaim := { program := "ytgpjhgoobijdjaa", sum := "a313448d210b730eb3b58cf046d42b5fba7b85402b7fd9f8cf8cdb18f84cd6b3", func := "loop.example/refcountml/laws.FnDupWord", spec := "fnDupWord", apart := false, narrowed := true }
def FnDupWordUptoSaid : Prop := fnDupWordUptoRow.holds Try.pinned (OpenSpec.upto fnDupWordSpec)

/-- 'laws.FnAllocCellDrop', WHERE WHAT IT READS IS OF BULK AT MOST 1048576: true; the input reads as it did. -/
def fnAllocCellDropUptoRow : OpenClaim := { program := "ytgpjhgoobijdjaa", sum := "a313448d210b730eb3b58cf046d42b5fba7b85402b7fd9f8cf8cdb18f84cd6b3", func := "loop.example/refcountml/laws.FnAllocCellDrop", spec := "fnAllocCellDrop", unfollowed := true, recurses := true, apart := false, narrowed := true }
def FnAllocCellDropUptoSaid : Prop := fnAllocCellDropUptoRow.holds Try.pinned (OpenSpec.upto fnAllocCellDropSpec)

/-- 'laws.FnDropWord', WHERE WHAT IT READS IS OF BULK AT MOST 1048576: true; the input reads as it did. -/
def fnDropWordUptoRow : OpenClaim := { program := "ytgpjhgoobijdjaa", sum := "a313448d210b730eb3b58cf046d42b5fba7b85402b7fd9f8cf8cdb18f84cd6b3", func := "loop.example/refcountml/laws.FnDropWord", spec := "fnDropWord", apart := false, narrowed := true }
def FnDropWordUptoSaid : Prop := fnDropWordUptoRow.holds Try.pinned (OpenSpec.upto fnDropWordSpec)

end Rows
end Go.Proofs.Ytgpjhgoobijdjaa
