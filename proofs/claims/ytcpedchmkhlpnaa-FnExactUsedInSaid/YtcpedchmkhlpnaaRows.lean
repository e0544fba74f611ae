/-
  NARROWER THAN 'FOR EVERY INPUT', by the rows' own cells (each row's printed sentence says how): FnExactUsedFrom: loops · FnExactUsedIn: loops.
  DERIVED. THE GIVEN ROWS OF THIS SEAT. 6 by the template 'for every input the law returns true; each argument reads behind the call as it read before'; 0 by the template 'total and deterministic' (their statements: YtcpedchmkhlpnaaTotals.lean).
  GIVEN WITH THE SEED: the statements are not yours to turn. If you find one false, say at which input.
  Laid BY PROGRAM, IN A SANDBOX (cutbox-rows.mjs): the forced cells as the released guide's own fill.sh prints them over the translation cd3afb3ece6f02f4… (all of the seat's roots in one cut). By AI agents, Wed Nov 11 2026. No macro, syntax, notation, axiom, sorry.
-/
import Derived.Test.YtcpedchmkhlpnaaChecked
import GoSem.Claim
import GoSem.ClaimJoined
import GoSem.ClaimMapViews
import Derived.JoinedTies
import Derived.KernelRfl
namespace Go.Proofs.Ytcpedchmkhlpnaa
/- THE CELL 'sum', in the pinned program and in every row, IS THE sha256 OF THE DUMP (.gsa) THAT YtcpedchmkhlpnaaProg.lean LOADS. Nothing in Lean hashes anything: it is a label: what it is worth is what the hold of that sum in a sandbox is worth. -/
noncomputable def Try.pinned : Pinned := { name := "ytcpedchmkhlpnaa", sum := "cd3afb3ece6f02f4939690bf5f387f22105f53b4fca374edb18dc25b88c5b0a9", checked := Try.checked }
namespace Rows
def none {H : Type} : Left H := { results := [], args := [] }

/-- 'laws.FnExactReachOf': WHATEVER THE INPUT: true; the input reads as it did. -/
def fnExactReachOfSpec : ChangeSpec := { name := "fnExactReachOf", fn := fun _ => fun
  | [d1, d2] => { results := [.lit (.bool true)], args := [d1, d2] }
  | _ => none }
def fnExactReachOfRow : OpenClaim := { program := "ytcpedchmkhlpnaa", sum := "cd3afb3ece6f02f4939690bf5f387f22105f53b4fca374edb18dc25b88c5b0a9", func := "loop.example/refcountml/laws.FnExactReachOf", spec := "fnExactReachOf", apart := false }
def FnExactReachOfSaid : Prop := fnExactReachOfRow.holds Try.pinned (OpenSpec.ofChange fnExactReachOfSpec)

/-- ITS FALSE NEIGHBOUR: 'it returns false'. Refute it at one input. -/
def fnExactReachOfWrong : ChangeSpec := { name := "fnExactReachOf", fn := fun _ => fun
  | [d1, d2] => { results := [.lit (.bool false)], args := [d1, d2] }
  | _ => none }
def FnExactReachOfWrongFalsely : Prop := fnExactReachOfRow.holds Try.pinned (OpenSpec.ofChange fnExactReachOfWrong)

/-- 'laws.FnExactDupWord': WHATEVER THE INPUT: true; the input reads as it did. -/
def fnExactDupWordSpec : ChangeSpec := { name := "fnExactDupWord", fn := fun _ => fun
  | [d1, d2] => { results := [.lit (.bool true)], args := [d1, d2] }
  | _ => none }
def fnExactDupWordRow : OpenClaim := { program := "ytcpedchmkhlpnaa", sum := "cd3afb3ece6f02f4939690bf5f387f22105f53b4fca374edb18dc25b88c5b0a9", func := "loop.example/refcountml/laws.FnExactDupWord", spec := "fnExactDupWord", apart := false }
def FnExactDupWordSaid : Prop := fnExactDupWordRow.holds Try.pinned (OpenSpec.ofChange fnExactDupWordSpec)

/-- ITS FALSE NEIGHBOUR: 'it returns false'. Refute it at one input. -/
def fnExactDupWordWrong : ChangeSpec := { name := "fnExactDupWord", fn := fun _ => fun
  | [d1, d2] => { results := [.lit (.bool false)], args := [d1, d2] }
  | _ => none }
def FnExactDupWordWrongFalsely : Prop := fnExactDupWordRow.holds Try.pinned (OpenSpec.ofChange fnExactDupWordWrong)

/-- 'laws.FnExactAllocCell': WHATEVER THE INPUT: true; the input reads as it did. -/
def fnExactAllocCellSpec : ChangeSpec := { name := "fnExactAllocCell", fn := fun _ => fun
  | [d1, d2, d3] => { results := [.lit (.bool true)], args := [d1, d2, d3] }
  | _ => none }
def fnExactAllocCellRow : OpenClaim := { program := "ytcpedchmkhlpnaa", sum := "cd3afb3ece6f02f4939690bf5f387f22105f53b4fca374edb18dc25b88c5b0a9", func := "loop.example/refcountml/laws.FnExactAllocCell", spec := "fnExactAllocCell", unfollowed := true, recurses := true, apart := false }
def FnExactAllocCellSaid : Prop := fnExactAllocCellRow.holds Try.pinned (OpenSpec.ofChange fnExactAllocCellSpec)

/-- ITS FALSE NEIGHBOUR: 'it returns false'. Refute it at one input. -/
def fnExactAllocCellWrong : ChangeSpec := { name := "fnExactAllocCell", fn := fun _ => fun
  | [d1, d2, d3] => { results := [.lit (.bool false)], args := [d1, d2, d3] }
  | _ => none }
def FnExactAllocCellWrongFalsely : Prop := fnExactAllocCellRow.holds Try.pinned (OpenSpec.ofChange fnExactAllocCellWrong)

/-- 'laws.FnExactDropWord': WHATEVER THE INPUT: true; the input reads as it did. -/
def fnExactDropWordSpec : ChangeSpec := { name := "fnExactDropWord", fn := fun _ => fun
  | [d1, d2] => { results := [.lit (.bool true)], args := [d1, d2] }
  | _ => none }
def fnExactDropWordRow : OpenClaim := { program := "ytcpedchmkhlpnaa", sum := "cd3afb3ece6f02f4939690bf5f387f22105f53b4fca374edb18dc25b88c5b0a9", func := "loop.example/refcountml/laws.FnExactDropWord", spec := "fnExactDropWord", apart := false }
def FnExactDropWordSaid : Prop := fnExactDropWordRow.holds Try.pinned (OpenSpec.ofChange fnExactDropWordSpec)

/-- ITS FALSE NEIGHBOUR: 'it returns false'. Refute it at one input. -/
def fnExactDropWordWrong : ChangeSpec := { name := "fnExactDropWord", fn := fun _ => fun
  | [d1, d2] => { results := [.lit (.bool false)], args := [d1, d2] }
  | _ => none }
def FnExactDropWordWrongFalsely : Prop := fnExactDropWordRow.holds Try.pinned (OpenSpec.ofChange fnExactDropWordWrong)

/-- 'laws.FnExactUsedFrom': WHATEVER THE INPUT: true; the input reads as it did. -/
def fnExactUsedFromSpec : ChangeSpec := { name := "fnExactUsedFrom", fn := fun _ => fun
  | [d1, d2, d3] => { results := [.lit (.bool true)], args := [d1, d2, d3] }
  | _ => none }
def fnExactUsedFromRow : OpenClaim := { program := "ytcpedchmkhlpnaa", sum := "cd3afb3ece6f02f4939690bf5f387f22105f53b4fca374edb18dc25b88c5b0a9", func := "loop.example/refcountml/laws.FnExactUsedFrom", spec := "fnExactUsedFrom", unfollowed := true, recurses := true, loops := true, apart := false }
def FnExactUsedFromSaid : Prop := fnExactUsedFromRow.holds Try.pinned (OpenSpec.ofChange fnExactUsedFromSpec)

/-- ITS FALSE NEIGHBOUR: 'it returns false'. Refute it at one input. -/
def fnExactUsedFromWrong : ChangeSpec := { name := "fnExactUsedFrom", fn := fun _ => fun
  | [d1, d2, d3] => { results := [.lit (.bool false)], args := [d1, d2, d3] }
  | _ => none }
def FnExactUsedFromWrongFalsely : Prop := fnExactUsedFromRow.holds Try.pinned (OpenSpec.ofChange fnExactUsedFromWrong)

/-- 'laws.FnExactUsedIn': WHATEVER THE INPUT: true; the input reads as it did. -/
def fnExactUsedInSpec : ChangeSpec := { name := "fnExactUsedIn", fn := fun _ => fun
  | [d1, d2] => { results := [.lit (.bool true)], args := [d1, d2] }
  | _ => none }
def fnExactUsedInRow : OpenClaim := { program := "ytcpedchmkhlpnaa", sum := "cd3afb3ece6f02f4939690bf5f387f22105f53b4fca374edb18dc25b88c5b0a9", func := "loop.example/refcountml/laws.FnExactUsedIn", spec := "fnExactUsedIn", unfollowed := true, recurses := true, loops := true, apart := false }
def FnExactUsedInSaid : Prop := fnExactUsedInRow.holds Try.pinned (OpenSpec.ofChange fnExactUsedInSpec)

/-- ITS FALSE NEIGHBOUR: 'it returns false'. Refute it at one input. -/
def fnExactUsedInWrong : ChangeSpec := { name := "fnExactUsedIn", fn := fun _ => fun
  | [d1, d2] => { results := [.lit (.bool false)], args := [d1, d2] }
  | _ => none }
def FnExactUsedInWrongFalsely : Prop := fnExactUsedInRow.holds Try.pinned (OpenSpec.ofChange fnExactUsedInWrong)

/- THE SECOND FORM. 'bulk': how many values and letters a reading holds, each counted each time it is reached (what is shared counts as often as it is met; a slice's spare places count too). A statement '..UptoSaid' is the law's where the arguments, and the package variables that the reading takes, are together of bulk at most 1048576: NARROWER than '..Said'. Prove '..Said' where nothing that the law and all that it calls make is longer than what came in: it says more and counts as full. Else prove '..UptoSaid'. A law counts once. -/
mutual
def uptoBulk {H : Type} : DataW H → Nat
  | .lit (.string bytes) => bytes.length + 1
  | .lit _ => 1
  | .nil => 1
  | .ptr d => uptoBulk d + 1
  | .slice elems spare => uptoBulkAll elems + uptoBulkAll spare + 1
  | .agg parts => uptoBulkAll parts + 1
  | .iface _ d => uptoBulk d + 1
  | .map entries => uptoBulkEntries entries + 1
  | .held _ => 1
def uptoBulkAll {H : Type} : List (DataW H) → Nat
  | [] => 0
  | d :: r => uptoBulk d + uptoBulkAll r
def uptoBulkEntries {H : Type} : List (Lit × DataW H) → Nat
  | [] => 0
  | x :: r => uptoBulkEntry x + uptoBulkEntries r
def uptoBulkEntry {H : Type} : Lit × DataW H → Nat
  | (.string bytes, d) => bytes.length + uptoBulk d + 1
  | (_, d) => uptoBulk d + 1
 end
def uptoSmall : (H : Type) → List (DataW H) → Bool := fun _ ds => decide (uptoBulkAll ds ≤ 1048576)
def OpenSpec.upto (s : _root_.Go.ChangeSpec) : _root_.Go.OpenSpec := { _root_.Go.OpenSpec.ofChange s with cond := some uptoSmall }

/-- 'laws.FnExactReachOf', WHERE WHAT IT READS IS OF BULK AT MOST 1048576: true; the input reads as it did. -/
def fnExactReachOfUptoRow : OpenClaim := { program := "ytcpedchmkhlpnaa", sum := "cd3afb3ece6f02f4939690bf5f387f22105f53b4fca374edb18dc25b88c5b0a9", func := "loop.example/refcountml/laws.FnExactReachOf", spec := "fnExactReachOf", apart := false, narrowed := true }
def FnExactReachOfUptoSaid : Prop := fnExactReachOfUptoRow.holds Try.pinned (OpenSpec.upto fnExactReachOfSpec)

/-- 'laws.FnExactDupWord', WHERE WHAT IT READS IS OF BULK AT MOST 1048576: true; the input reads as it did. -/
def fnExactDupWordUptoRow : OpenClaim := { program := "ytcpedchmkhlpnaa", sum := "cd3afb3ece6f02f4939690bf5f387f22105f53b4fca374edb18dc25b88c5b0a9", func := "loop.example/refcountml/laws.FnExactDupWord", spec := "fnExactDupWord", apart := false, narrowed := true }
def FnExactDupWordUptoSaid : Prop := fnExactDupWordUptoRow.holds Try.pinned (OpenSpec.upto fnExactDupWordSpec)

/-- 'laws.FnExactAllocCell', WHERE WHAT IT READS IS OF BULK AT MOST 1048576: true; the input reads as it did. -/
def fnExactAllocCellUptoRow : OpenClaim := { program := "ytcpedchmkhlpnaa", sum := "cd3afb3ece6f02f4939690bf5f387f22105f53b4fca374edb18dc25b88c5b0a9", func := "loop.example/refcountml/laws.FnExactAllocCell", spec := "fnExactAllocCell", unfollowed := true, recurses := true, apart := false, narrowed := true }
def FnExactAllocCellUptoSaid : Prop := fnExactAllocCellUptoRow.holds Try.pinned (OpenSpec.upto fnExactAllocCellSpec)

/-- 'laws.FnExactDropWord', WHERE WHAT IT READS IS OF BULK AT MOST 1048576: true; the input reads as it did. -/
def fnExactDropWordUptoRow : OpenClaim := { program := "ytcpedchmkhlpnaa", sum := "cd3afb3ece6f02f4939690bf5f387f22105f53b4fca374edb18dc25b88c5b0a9", func := "loop.example/refcountml/laws.FnExactDropWord", spec := "fnExactDropWord", apart := false, narrowed := true }
def FnExactDropWordUptoSaid : Prop := fnExactDropWordUptoRow.holds Try.pinned (OpenSpec.upto fnExactDropWordSpec)

/-- 'laws.FnExactUsedFrom', WHERE WHAT IT READS IS OF BULK AT MOST 1048576: true; the input reads as it did. -/
def fnExactUsedFromUptoRow : OpenClaim := { program := "ytcpedchmkhlpnaa", sum := "cd3afb3ece6f02f4939690bf5f387f22105f53b4fca374edb18dc25b88c5b0a9", func := "loop.example/refcountml/laws.FnExactUsedFrom", spec := "fnExactUsedFrom", unfollowed := true, recurses := true, loops := true, apart := false, narrowed := true }
def FnExactUsedFromUptoSaid : Prop := fnExactUsedFromUptoRow.holds Try.pinned (OpenSpec.upto fnExactUsedFromSpec)

/-- 'laws.FnExactUsedIn', WHERE WHAT IT READS IS OF BULK AT MOST 1048576: true; the input reads as it did. -/
def fnExactUsedInUptoRow : OpenClaim := { program := "ytcpedchmkhlpnaa", sum := "cd3afb3ece6f02f4939690bf5f387f22105f53b4fca374edb18dc25b88c5b0a9", func := "loop.example/refcountml/laws.FnExactUsedIn", spec := "fnExactUsedIn", unfollowed := true, recurses := true, loops := true, apart := false, narrowed := true }
def FnExactUsedInUptoSaid : Prop := fnExactUsedInUptoRow.holds Try.pinned (OpenSpec.upto fnExactUsedInSpec)

end Rows
end Go.Proofs.Ytcpedchmkhlpnaa
