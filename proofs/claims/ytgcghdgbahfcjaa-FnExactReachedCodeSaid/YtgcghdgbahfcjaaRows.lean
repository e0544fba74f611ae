/-
  No cell of these rows narrows 'for every input' (looked for: loops, veiled, ifaces, maps, wideKeys, modest, calm, conditions, laid).
  DERIVED. THE GIVEN ROWS OF THIS SEAT. 3 by the template 'for every input the law returns true; each argument reads behind the call as it read before'; 0 by the template 'total and deterministic' (their statements: YtgcghdgbahfcjaaTotals.lean).
  GIVEN WITH THE SEED: the statements are not yours to turn. If you find one false, say at which input.
  Laid BY PROGRAM, IN A SANDBOX (cutbox-rows.mjs): the forced cells as the released guide's own fill.sh prints them over the translation 752b2324d2800ef6… (all of the seat's roots in one cut). By AI agents, Wed Nov 11 2026. No macro, syntax, notation, axiom, sorry.
-/
import Derived.Test.YtgcghdgbahfcjaaChecked
import GoSem.Claim
import GoSem.ClaimJoined
import GoSem.ClaimMapViews
import Derived.JoinedTies
import Derived.KernelRfl
namespace Go.Proofs.Ytgcghdgbahfcjaa
/- THE CELL 'sum', in the pinned program and in every row, IS THE sha256 OF THE DUMP (.gsa) THAT YtgcghdgbahfcjaaProg.lean LOADS. Nothing in Lean hashes anything: it is a label: what it is worth is what the hold of that sum in a sandbox is worth. -/
noncomputable def Try.pinned : Pinned := { name := "ytgcghdgbahfcjaa", sum := "752b2324d2800ef64a80864180689e5dcdfd91d92b099ef0d2d9a224a7e2daa8", checked := Try.checked }
namespace Rows
def none {H : Type} : Left H := { results := [], args := [] }

/-- 'laws.FnExactReachedCode': WHATEVER THE INPUT: true; the input reads as it did. -/
def fnExactReachedCodeSpec : ChangeSpec := { name := "fnExactReachedCode", fn := fun _ => fun
  | [d1, d2] => { results := [.lit (.bool true)], args := [d1, d2] }
  | _ => none }
def fnExactReachedCodeRow : OpenClaim := { program := "ytgcghdgbahfcjaa", sum := "752b2324d2800ef64a80864180689e5dcdfd91d92b099ef0d2d9a224a7e2daa8", func := "loop.example/refcountml/laws.FnExactReachedCode", spec := "fnExactReachedCode", unfollowed := true, recurses := true, apart := false }
def FnExactReachedCodeSaid : Prop := fnExactReachedCodeRow.holds Try.pinned (OpenSpec.ofChange fnExactReachedCodeSpec)

/-- ITS FALSE NEIGHBOUR: 'it returns false'. Refute it at one input. -/
def fnExactReachedCodeWrong : ChangeSpec := { name := "fnExactReachedCode", fn := fun _ => fun
  | [d1, d2] => { results := [.lit (.bool false)], args := [d1, d2] }
  | _ => none }
def FnExactReachedCodeWrongFalsely : Prop := fnExactReachedCodeRow.holds Try.pinned (OpenSpec.ofChange fnExactReachedCodeWrong)

/-- 'laws.FnExactLiveRegs': WHATEVER THE INPUT: true; the input reads as it did. -/
def fnExactLiveRegsSpec : ChangeSpec := { name := "fnExactLiveRegs", fn := fun _ => fun
  | [d1, d2, d3] => { results := [.lit (.bool true)], args := [d1, d2, d3] }
  | _ => none }
def fnExactLiveRegsRow : OpenClaim := { program := "ytgcghdgbahfcjaa", sum := "752b2324d2800ef64a80864180689e5dcdfd91d92b099ef0d2d9a224a7e2daa8", func := "loop.example/refcountml/laws.FnExactLiveRegs", spec := "fnExactLiveRegs", unfollowed := true, recurses := true, apart := false }
def FnExactLiveRegsSaid : Prop := fnExactLiveRegsRow.holds Try.pinned (OpenSpec.ofChange fnExactLiveRegsSpec)

/-- ITS FALSE NEIGHBOUR: 'it returns false'. Refute it at one input. -/
def fnExactLiveRegsWrong : ChangeSpec := { name := "fnExactLiveRegs", fn := fun _ => fun
  | [d1, d2, d3] => { results := [.lit (.bool false)], args := [d1, d2, d3] }
  | _ => none }
def FnExactLiveRegsWrongFalsely : Prop := fnExactLiveRegsRow.holds Try.pinned (OpenSpec.ofChange fnExactLiveRegsWrong)

/-- 'laws.FnExactStartState': WHATEVER THE INPUT: true; the input reads as it did. -/
def fnExactStartStateSpec : ChangeSpec := { name := "fnExactStartState", fn := fun _ => fun
  | [d1, d2] => { results := [.lit (.bool true)], args := [d1, d2] }
  | _ => none }
def fnExactStartStateRow : OpenClaim := { program := "ytgcghdgbahfcjaa", sum := "752b2324d2800ef64a80864180689e5dcdfd91d92b099ef0d2d9a224a7e2daa8", func := "loop.example/refcountml/laws.FnExactStartState", spec := "fnExactStartState", unfollowed := true, recurses := true, apart := false }
def FnExactStartStateSaid : Prop := fnExactStartStateRow.holds Try.pinned (OpenSpec.ofChange fnExactStartStateSpec)

/-- ITS FALSE NEIGHBOUR: 'it returns false'. Refute it at one input. -/
def fnExactStartStateWrong : ChangeSpec := { name := "fnExactStartState", fn := fun _ => fun
  | [d1, d2] => { results := [.lit (.bool false)], args := [d1, d2] }
  | _ => none }
def FnExactStartStateWrongFalsely : Prop := fnExactStartStateRow.holds Try.pinned (OpenSpec.ofChange fnExactStartStateWrong)

/- THE SECOND FORM. 'bulk': how many values and letters a reading holds, each counted each time it is reached (what is shared counts as often as it is met; a slice's spare places count too). A statement '..UptoSaid' is the law's where the arguments, and the package variables that the reading takes, are together of bulk at most 1048576: NARROWER than '..Said'. Prove '..Said' where nothing that the law and all that it calls make is longer than what came in: it says more and counts as full. Else prove '..UptoSaid'. A law counts once. -/
mutual
def uptoBulk {H : Type} : DataW H → Nat
  | .lit (.string bytes) => bytes.length + 1
  | .lit _ => 1
  | .nil => 1
  | .ptr d => uptoBulk d + 1
  | .slice elems spare => uptoBulkAll elems + uptoBulkAll spare + 1
  | .agg parts => uptoBulkAll parts + 1
  | .iface _ d => uptoBulk d + 1
  | .map entries => uptoBulkEntries entries + 1
  | .held _ => 1
def uptoBulkAll {H : Type} : List (DataW H) → Nat
  | [] => 0
  | d :: r => uptoBulk d + uptoBulkAll r
def uptoBulkEntries {H : Type} : List (Lit × DataW H) → Nat
  | [] => 0
  | x :: r => uptoBulkEntry x + uptoBulkEntries r
def uptoBulkEntry {H : Type} : Lit × DataW H → Nat
  | (.string bytes, d) => bytes.length + uptoBulk d + 1
  | (_, d) => uptoBulk d + 1
 end
def uptoSmall : (H : Type) → List (DataW H) → Bool := fun _ ds => decide (uptoBulkAll ds ≤ 1048576)
def OpenSpec.upto (s : _root_.Go.ChangeSpec) : _root_.Go.OpenSpec := { _root_.Go.OpenSpec.ofChange s with cond := some uptoSmall }

/-- 'laws.FnExactReachedCode', WHERE WHAT IT READS IS OF BULK AT MOST 1048576: true; the input reads as it did. -/
def fnExactReachedCodeUptoRow : OpenClaim := { program := "ytgcghdgbahfcjaa", sum := "752b2324d2800ef64a80864180689e5dcdfd91d92b099ef0d2d9a224a7e2daa8", func := "loop.example/refcountml/laws.FnExactReachedCode", spec := "fnExactReachedCode", unfollowed := true, recurses := true, apart := false, narrowed := true }
def FnExactReachedCodeUptoSaid : Prop := fnExactReachedCodeUptoRow.holds Try.pinned (OpenSpec.upto fnExactReachedCodeSpec)

/-- 'laws.FnExactLiveRegs', WHERE WHAT IT READS IS OF BULK AT MOST 1048576: true; the input reads as it did. -/
def fnExactLiveRegsUptoRow : OpenClaim := { program := "ytgcghdgbahfcjaa", sum := "752b2324d2800ef64a80864180689e5dcdfd91d92b099ef0d2d9a224a7e2daa8", func := "loop.example/refcountml/laws.FnExactLiveRegs", spec := "fnExactLiveRegs", unfollowed := true, recurses := true, apart := false, narrowed := true }
def FnExactLiveRegsUptoSaid : Prop := fnExactLiveRegsUptoRow.holds Try.pinned (OpenSpec.upto fnExactLiveRegsSpec)

/-- 'laws.FnExactStartState', WHERE WHAT IT READS IS OF BULK AT MOST 1048576: true; the input reads as it did. -/
def fnExactStartStateUptoRow : OpenClaim := { program := "ytgcghdgbahfcjaa", sum := "752b2324d2800ef64a80864180689e5dcdfd91d92b099ef0d2d9a224a7e2daa8", func := "loop.example/refcountml/laws.FnExactStartState", spec := "fnExactStartState", unfollowed := true, recurses := true, apart := false, narrowed := true }
def FnExactStartStateUptoSaid : Prop := fnExactStartStateUptoRow.holds Try.pinned (OpenSpec.upto fnExactStartStateSpec)

end Rows
end Go.Proofs.Ytgcghdgbahfcjaa
