/-
  NARROWER THAN 'FOR EVERY INPUT', by the rows' own cells (each row's printed sentence says how): FnExactKnownCalls: loops · FnExactFold: loops · FnExactInline: loops.
  DERIVED. THE GIVEN ROWS OF THIS SEAT. 3 by the template 'for every input the law returns true; each argument reads behind the call as it read before'; 0 by the template 'total and deterministic' (their statements: YtpahalfiiahddaaGreatTotals.lean).
  GIVEN WITH THE SEED: the statements are not yours to turn. If you find one false, say at which input.
  Laid BY PROGRAM, IN A SANDBOX (cutbox-rows.mjs): the forced cells as the released guide's own fill.sh prints them over the translation dcbc0e5daa2887b8… (all of the seat's roots in one cut). By AI agents, Wed Nov 11 2026. No macro, syntax, notation, axiom, sorry.
-/
import Derived.Test.YtpahalfiiahddaaGreatChecked
import GoSem.Claim
import GoSem.ClaimJoined
import GoSem.ClaimMapViews
import Derived.JoinedTies
import Derived.KernelRfl
namespace Go.Proofs.YtpahalfiiahddaaGreat
/- THE CELL 'sum', in the pinned program and in every row, IS THE sha256 OF THE DUMP (.gsa) THAT YtpahalfiiahddaaGreatProg.lean LOADS. Nothing in Lean hashes anything: it is a label: what it is worth is what the hold of that sum in a sandbox is worth. -/
noncomputable def Tryz.pinned : Pinned := { name := "ytpahalfiiahddaagreat", sum := "dcbc0e5daa2887b8b870ecfbc397ef8d05d079170f8daa3d29664244c9edfa7c", checked := Tryz.checked }
namespace Rows
def none {H : Type} : Left H := { results := [], args := [] }

/-- 'laws.FnExactKnownCalls': WHATEVER THE INPUT: true; the input reads as it did. -/
def fnExactKnownCallsSpec : ChangeSpec := { name := "fnExactKnownCalls", fn := fun _ => fun
  | [d] => { results := [.lit (.bool true)], args := [d] }
  | _ => none }
def fnExactKnownCallsRow : OpenClaim := { program := "ytpahalfiiahddaagreat", sum := "dcbc0e5daa2887b8b870ecfbc397ef8d05d079170f8daa3d29664244c9edfa7c", func := "loop.example/refcountml/laws.FnExactKnownCalls", spec := "fnExactKnownCalls", unfollowed := true, recurses := true, loops := true, apart := false }
def FnExactKnownCallsSaid : Prop := fnExactKnownCallsRow.holds Tryz.pinned (OpenSpec.ofChange fnExactKnownCallsSpec)

/-- ITS FALSE NEIGHBOUR: 'it returns false'. Refute it at one input. -/
def fnExactKnownCallsWrong : ChangeSpec := { name := "fnExactKnownCalls", fn := fun _ => fun
  | [d] => { results := [.lit (.bool false)], args := [d] }
  | _ => none }
def FnExactKnownCallsWrongFalsely : Prop := fnExactKnownCallsRow.holds Tryz.pinned (OpenSpec.ofChange fnExactKnownCallsWrong)

/-- 'laws.FnExactFold': WHATEVER THE INPUT: true; the input reads as it did. -/
def fnExactFoldSpec : ChangeSpec := { name := "fnExactFold", fn := fun _ => fun
  | [d] => { results := [.lit (.bool true)], args := [d] }
  | _ => none }
def fnExactFoldRow : OpenClaim := { program := "ytpahalfiiahddaagreat", sum := "dcbc0e5daa2887b8b870ecfbc397ef8d05d079170f8daa3d29664244c9edfa7c", func := "loop.example/refcountml/laws.FnExactFold", spec := "fnExactFold", unfollowed := true, recurses := true, loops := true, apart := false }
def FnExactFoldSaid : Prop := fnExactFoldRow.holds Tryz.pinned (OpenSpec.ofChange fnExactFoldSpec)

/-- ITS FALSE NEIGHBOUR: 'it returns false'. Refute it at one input. -/
def fnExactFoldWrong : ChangeSpec := { name := "fnExactFold", fn := fun _ => fun
  | [d] => { results := [.lit (.bool false)], args := [d] }
  | _ => none }
def FnExactFoldWrongFalsely : Prop := fnExactFoldRow.holds Tryz.pinned (OpenSpec.ofChange fnExactFoldWrong)

/-- 'laws.FnExactInline': WHATEVER THE INPUT: true; the input reads as it did. -/
def fnExactInlineSpec : ChangeSpec := { name := "fnExactInline", fn := fun _ => fun
  | [d1, d2] => { results := [.lit (.bool true)], args := [d1, d2] }
  | _ => none }
def fnExactInlineRow : OpenClaim := { program := "ytpahalfiiahddaagreat", sum := "dcbc0e5daa2887b8b870ecfbc397ef8d05d079170f8daa3d29664244c9edfa7c", func := "loop.example/refcountml/laws.FnExactInline", spec := "fnExactInline", unfollowed := true, recurses := true, loops := true, apart := false }
def FnExactInlineSaid : Prop := fnExactInlineRow.holds Tryz.pinned (OpenSpec.ofChange fnExactInlineSpec)

/-- ITS FALSE NEIGHBOUR: 'it returns false'. Refute it at one input. -/
def fnExactInlineWrong : ChangeSpec := { name := "fnExactInline", fn := fun _ => fun
  | [d1, d2] => { results := [.lit (.bool false)], args := [d1, d2] }
  | _ => none }
def FnExactInlineWrongFalsely : Prop := fnExactInlineRow.holds Tryz.pinned (OpenSpec.ofChange fnExactInlineWrong)

/- THE SECOND FORM. 'bulk': how many values and letters a reading holds, each counted each time it is reached (what is shared counts as often as it is met; a slice's spare places count too). A statement '..UptoSaid' is the law's where the arguments, and the package variables that the reading takes, are together of bulk at most 1048576: NARROWER than '..Said'. Prove '..Said' where nothing that the law and all that it calls make is longer than what came in: it says more and counts as full. Else prove '..UptoSaid'. A law counts once. -/
mutual
def uptoBulk {H : Type} : DataW H → Nat
  | .lit (.string bytes) => bytes.length + 1
  | .lit _ => 1
  | .nil => 1
  | .ptr d => uptoBulk d + 1
  | .slice elems spare => uptoBulkAll elems + uptoBulkAll spare + 1
  | .agg parts => uptoBulkAll parts + 1
  | .iface _ d => uptoBulk d + 1
  | .map entries => uptoBulkEntries entries + 1
  | .held _ => 1
def uptoBulkAll {H : Type} : List (DataW H) → Nat
  | [] => 0
  | d :: r => uptoBulk d + uptoBulkAll r
def uptoBulkEntries {H : Type} : List (Lit × DataW H) → Nat
  | [] => 0
  | x :: r => uptoBulkEntry x + uptoBulkEntries r
def uptoBulkEntry {H : Type} : Lit × DataW H → Nat
  | (.string bytes, d) => bytes.length + uptoBulk d + 1
  | (_, d) => uptoBulk d + 1
 end
def uptoSmall : (H : Type) → List (DataW H) → Bool := fun _ ds => decide (uptoBulkAll ds ≤ 1048576)
def OpenSpec.upto (s : _root_.Go.ChangeSpec) : _root_.Go.OpenSpec := { _root_.Go.OpenSpec.ofChange s with cond := some uptoSmall }

/-- 'laws.FnExactKnownCalls', WHERE WHAT IT READS IS OF BULK AT MOST 1048576: true; the input reads as it did. -/
def fnExactKnownCallsUptoRow : OpenClaim := { program := "ytpahalfiiahddaagreat", sum := "dcbc0e5daa2887b8b870ecfbc397ef8d05d079170f8daa3d29664244c9edfa7c", func := "loop.example/refcountml/laws.FnExactKnownCalls", spec := "fnExactKnownCalls", unfollowed := true, recurses := true, loops := true, apart := false, narrowed := true }
def FnExactKnownCallsUptoSaid : Prop := fnExactKnownCallsUptoRow.holds Tryz.pinned (OpenSpec.upto fnExactKnownCallsSpec)

/-- 'laws.FnExactFold', WHERE WHAT IT READS IS OF BULK AT MOST 1048576: true; the input reads as it did. -/
def fnExactFoldUptoRow : OpenClaim := { program := "ytpahalfiiahddaagreat", sum := "dcbc0e5daa2887b8b870ecfbc397ef8d05d079170f8daa3d29664244c9edfa7c", func := "loop.example/refcountml/laws.FnExactFold", spec := "fnExactFold", unfollowed := true, recurses := true, loops := true, apart := false, narrowed := true }
def FnExactFoldUptoSaid : Prop := fnExactFoldUptoRow.holds Tryz.pinned (OpenSpec.upto fnExactFoldSpec)

/-- 'laws.FnExactInline', WHERE WHAT IT READS IS OF BULK AT MOST 1048576: true; the input reads as it did. -/
def fnExactInlineUptoRow : OpenClaim := { program := "ytpahalfiiahddaagreat", sum := "dcbc0e5daa2887b8b870ecfbc397ef8d05d079170f8daa3d29664244c9edfa7c", func := "loop.example/refcountml/laws.FnExactInline", spec := "fnExactInline", unfollowed := true, recurses := true, loops := true, apart := false, narrowed := true }
def FnExactInlineUptoSaid : Prop := fnExactInlineUptoRow.holds Tryz.pinned (OpenSpec.upto fnExactInlineSpec)

end Rows
end Go.Proofs.YtpahalfiiahddaaGreat
