/-
  No cell of these rows narrows 'for every input' (looked for: loops, veiled, ifaces, maps, wideKeys, modest, calm, conditions, laid).
  DERIVED. THE GIVEN ROWS OF THIS SEAT. 5 by the template 'for every input the law returns true; each argument reads behind the call as it read before'; 0 by the template 'total and deterministic' (their statements: YtihdgoiebmfapaaGreatTotals.lean).
  GIVEN WITH THE SEED: the statements are not yours to turn. If you find one false, say at which input.
  Laid BY PROGRAM, IN A SANDBOX (cutbox-rows.mjs): the forced cells as the released guide's own fill.sh prints them over the translation db0d62dd350ba261… (all of the seat's roots in one cut). By AI agents, Wed Nov 11 2026. No macro, syntax, notation, axiom, sorry.
-/
import Derived.Test.YtihdgoiebmfapaaGreatChecked
import GoSem.Claim
import GoSem.ClaimJoined
import GoSem.ClaimMapViews
import Derived.JoinedTies
import Derived.KernelRfl
namespace Go.Proofs.YtihdgoiebmfapaaGreat
/- THE CELL 'sum', in the pinned program and in every row, IS THE sha256 OF THE DUMP (.gsa) THAT YtihdgoiebmfapaaGreatProg.lean LOADS. Nothing in Lean hashes anything: it is a label: what it is worth is what the hold of that sum in a sandbox is worth. -/
noncomputable def Tryz.pinned : Pinned := { name := "ytihdgoiebmfapaagreat", sum := "db0d62dd350ba26158c37a75a2ec5746d5d4ccdfc04bc6295491ca755869adfb", checked := Tryz.checked }
namespace Rows
def none {H : Type} : Left H := { results := [], args := [] }

/-- 'laws.FnKnownCallsTwice': WHATEVER THE INPUT: true; the input reads as it did. -/
def fnKnownCallsTwiceSpec : ChangeSpec := { name := "fnKnownCallsTwice", fn := fun _ => fun
  | [d] => { results := [.lit (.bool true)], args := [d] }
  | _ => none }
def fnKnownCallsTwiceRow : OpenClaim := { program := "ytihdgoiebmfapaagreat", sum := "db0d62dd350ba26158c37a75a2ec5746d5d4ccdfc04bc6295491ca755869adfb", func := "loop.example/refcountml/laws.FnKnownCallsTwice", spec := "fnKnownCallsTwice", unfollowed := true, recurses := true, apart := false }
def FnKnownCallsTwiceSaid : Prop := fnKnownCallsTwiceRow.holds Tryz.pinned (OpenSpec.ofChange fnKnownCallsTwiceSpec)

/-- ITS FALSE NEIGHBOUR: 'it returns false'. Refute it at one input. -/
def fnKnownCallsTwiceWrong : ChangeSpec := { name := "fnKnownCallsTwice", fn := fun _ => fun
  | [d] => { results := [.lit (.bool false)], args := [d] }
  | _ => none }
def FnKnownCallsTwiceWrongFalsely : Prop := fnKnownCallsTwiceRow.holds Tryz.pinned (OpenSpec.ofChange fnKnownCallsTwiceWrong)

/-- 'laws.FnFoldTwice': WHATEVER THE INPUT: true; the input reads as it did. -/
def fnFoldTwiceSpec : ChangeSpec := { name := "fnFoldTwice", fn := fun _ => fun
  | [d] => { results := [.lit (.bool true)], args := [d] }
  | _ => none }
def fnFoldTwiceRow : OpenClaim := { program := "ytihdgoiebmfapaagreat", sum := "db0d62dd350ba26158c37a75a2ec5746d5d4ccdfc04bc6295491ca755869adfb", func := "loop.example/refcountml/laws.FnFoldTwice", spec := "fnFoldTwice", unfollowed := true, recurses := true, apart := false }
def FnFoldTwiceSaid : Prop := fnFoldTwiceRow.holds Tryz.pinned (OpenSpec.ofChange fnFoldTwiceSpec)

/-- ITS FALSE NEIGHBOUR: 'it returns false'. Refute it at one input. -/
def fnFoldTwiceWrong : ChangeSpec := { name := "fnFoldTwice", fn := fun _ => fun
  | [d] => { results := [.lit (.bool false)], args := [d] }
  | _ => none }
def FnFoldTwiceWrongFalsely : Prop := fnFoldTwiceRow.holds Tryz.pinned (OpenSpec.ofChange fnFoldTwiceWrong)

/-- 'laws.FnFoldCallees': WHATEVER THE INPUT: true; the input reads as it did. -/
def fnFoldCalleesSpec : ChangeSpec := { name := "fnFoldCallees", fn := fun _ => fun
  | [d] => { results := [.lit (.bool true)], args := [d] }
  | _ => none }
def fnFoldCalleesRow : OpenClaim := { program := "ytihdgoiebmfapaagreat", sum := "db0d62dd350ba26158c37a75a2ec5746d5d4ccdfc04bc6295491ca755869adfb", func := "loop.example/refcountml/laws.FnFoldCallees", spec := "fnFoldCallees", unfollowed := true, recurses := true, apart := false }
def FnFoldCalleesSaid : Prop := fnFoldCalleesRow.holds Tryz.pinned (OpenSpec.ofChange fnFoldCalleesSpec)

/-- ITS FALSE NEIGHBOUR: 'it returns false'. Refute it at one input. -/
def fnFoldCalleesWrong : ChangeSpec := { name := "fnFoldCallees", fn := fun _ => fun
  | [d] => { results := [.lit (.bool false)], args := [d] }
  | _ => none }
def FnFoldCalleesWrongFalsely : Prop := fnFoldCalleesRow.holds Tryz.pinned (OpenSpec.ofChange fnFoldCalleesWrong)

/-- 'laws.FnInline': WHATEVER THE INPUT: true; the input reads as it did. -/
def fnInlineSpec : ChangeSpec := { name := "fnInline", fn := fun _ => fun
  | [d] => { results := [.lit (.bool true)], args := [d] }
  | _ => none }
def fnInlineRow : OpenClaim := { program := "ytihdgoiebmfapaagreat", sum := "db0d62dd350ba26158c37a75a2ec5746d5d4ccdfc04bc6295491ca755869adfb", func := "loop.example/refcountml/laws.FnInline", spec := "fnInline", unfollowed := true, recurses := true, apart := false }
def FnInlineSaid : Prop := fnInlineRow.holds Tryz.pinned (OpenSpec.ofChange fnInlineSpec)

/-- ITS FALSE NEIGHBOUR: 'it returns false'. Refute it at one input. -/
def fnInlineWrong : ChangeSpec := { name := "fnInline", fn := fun _ => fun
  | [d] => { results := [.lit (.bool false)], args := [d] }
  | _ => none }
def FnInlineWrongFalsely : Prop := fnInlineRow.holds Tryz.pinned (OpenSpec.ofChange fnInlineWrong)

/-- 'laws.FnInlineSame': WHATEVER THE INPUT: true; the input reads as it did. -/
def fnInlineSameSpec : ChangeSpec := { name := "fnInlineSame", fn := fun _ => fun
  | [d] => { results := [.lit (.bool true)], args := [d] }
  | _ => none }
def fnInlineSameRow : OpenClaim := { program := "ytihdgoiebmfapaagreat", sum := "db0d62dd350ba26158c37a75a2ec5746d5d4ccdfc04bc6295491ca755869adfb", func := "loop.example/refcountml/laws.FnInlineSame", spec := "fnInlineSame", unfollowed := true, recurses := true, apart := false }
def FnInlineSameSaid : Prop := fnInlineSameRow.holds Tryz.pinned (OpenSpec.ofChange fnInlineSameSpec)

/-- ITS FALSE NEIGHBOUR: 'it returns false'. Refute it at one input. -/
def fnInlineSameWrong : ChangeSpec := { name := "fnInlineSame", fn := fun _ => fun
  | [d] => { results := [.lit (.bool false)], args := [d] }
  | _ => none }
def FnInlineSameWrongFalsely : Prop := fnInlineSameRow.holds Tryz.pinned (OpenSpec.ofChange fnInlineSameWrong)

/- THE SECOND FORM. 'bulk': how many values and letters a reading holds, each counted each time it is reached (what is shared counts as often as it is met; a slice's spare places count too). A statement '..UptoSaid' is the law's where the arguments, and the package variables that the reading takes, are together of bulk at most 1048576: NARROWER than '..Said'. Prove '..Said' where nothing that the law and all that it calls make is longer than what came in: it says more and counts as full. Else prove '..UptoSaid'. A law counts once. -/
mutual
def uptoBulk {H : Type} : DataW H → Nat
  | .lit (.string bytes) => bytes.length + 1
  | .lit _ => 1
  | .nil => 1
  | .ptr d => uptoBulk d + 1
  | .slice elems spare => uptoBulkAll elems + uptoBulkAll spare + 1
  | .agg parts => uptoBulkAll parts + 1
  | .iface _ d => uptoBulk d + 1
  | .map entries => uptoBulkEntries entries + 1
  | .held _ => 1
def uptoBulkAll {H : Type} : List (DataW H) → Nat
  | [] => 0
  | d :: r => uptoBulk d + uptoBulkAll r
def uptoBulkEntries {H : Type} : List (Lit × DataW H) → Nat
  | [] => 0
  | x :: r => uptoBulkEntry x + uptoBulkEntries r
def uptoBulkEntry {H : Type} : Lit × DataW H → Nat
  | (.string bytes, d) => bytes.length + uptoBulk d + 1
  | (_, d) => uptoBulk d + 1
 end
def uptoSmall : (H : Type) → List (DataW H) → Bool := fun _ ds => decide (uptoBulkAll ds ≤ 1048576)
def OpenSpec.upto (s : _root_.Go.ChangeSpec) : _root_.Go.OpenSpec := { _root_.Go.OpenSpec.ofChange s with cond := some uptoSmall }

/-- 'laws.FnKnownCallsTwice', WHERE WHAT IT READS IS OF BULK AT MOST 1048576: true; the input reads as it did. -/
def fnKnownCallsTwiceUptoRow : OpenClaim := { program := "ytihdgoiebmfapaagreat", sum := "db0d62dd350ba26158c37a75a2ec5746d5d4ccdfc04bc6295491ca755869adfb", func := "loop.example/refcountml/laws.FnKnownCallsTwice", spec := "fnKnownCallsTwice", unfollowed := true, recurses := true, apart := false, narrowed := true }
def FnKnownCallsTwiceUptoSaid : Prop := fnKnownCallsTwiceUptoRow.holds Tryz.pinned (OpenSpec.upto fnKnownCallsTwiceSpec)

/-- 'laws.FnFoldTwice', WHERE WHAT IT READS IS OF BULK AT MOST 1048576: true; the input reads as it did. -/
def fnFoldTwiceUptoRow : OpenClaim := { program := "ytihdgoiebmfapaagreat", sum := "db0d62dd350ba26158c37a75a2ec5746d5d4ccdfc04bc6295491ca755869adfb", func := "loop.example/refcountml/laws.FnFoldTwice", spec := "fnFoldTwice", unfollowed := true, recurses := true, apart := false, narrowed := true }
def FnFoldTwiceUptoSaid : Prop := fnFoldTwiceUptoRow.holds Tryz.pinned (OpenSpec.upto fnFoldTwiceSpec)

/-- 'laws.FnFoldCallees', WHERE WHAT IT READS IS OF BULK AT MOST 1048576: true; the input reads as it did. -/
def fnFoldCalleesUptoRow : OpenClaim := { program := "ytihdgoiebmfapaagreat", sum := "db0d62dd350ba26158c37a75a2ec5746d5d4ccdfc04bc6295491ca755869adfb", func := "loop.example/refcountml/laws.FnFoldCallees", spec := "fnFoldCallees", unfollowed := true, recurses := true, apart := false, narrowed := true }
def FnFoldCalleesUptoSaid : Prop := fnFoldCalleesUptoRow.holds Tryz.pinned (OpenSpec.upto fnFoldCalleesSpec)

/-- 'laws.FnInline', WHERE WHAT IT READS IS OF BULK AT MOST 1048576: true; the input reads as it did. -/
def fnInlineUptoRow : OpenClaim := { program := "ytihdgoiebmfapaagreat", sum := "db0d62dd350ba26158c37a75a2ec5746d5d4ccdfc04bc6295491ca755869adfb", func := "loop.example/refcountml/laws.FnInline", spec := "fnInline", unfollowed := true, recurses := true, apart := false, narrowed := true }
def FnInlineUptoSaid : Prop := fnInlineUptoRow.holds Tryz.pinned (OpenSpec.upto fnInlineSpec)

/-- 'laws.FnInlineSame', WHERE WHAT IT READS IS OF BULK AT MOST 1048576: true; the input reads as it did. -/
def fnInlineSameUptoRow : OpenClaim := { program := "ytihdgoiebmfapaagreat", sum := "db0d62dd350ba26158c37a75a2ec5746d5d4ccdfc04bc6295491ca755869adfb", func := "loop.example/refcountml/laws.FnInlineSame", spec := "fnInlineSame", unfollowed := true, recurses := true, apart := false, narrowed := true }
def FnInlineSameUptoSaid : Prop := fnInlineSameUptoRow.holds Tryz.pinned (OpenSpec.upto fnInlineSameSpec)

end Rows
end Go.Proofs.YtihdgoiebmfapaaGreat
