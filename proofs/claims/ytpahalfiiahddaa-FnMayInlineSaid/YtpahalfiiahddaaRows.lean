/-
  NARROWER THAN 'FOR EVERY INPUT', by the rows' own cells (each row's printed sentence says how): FnExactCallSites: loops · FnExactMayInline: loops.
  DERIVED. THE GIVEN ROWS OF THIS SEAT. 4 by the template 'for every input the law returns true; each argument reads behind the call as it read before'; 0 by the template 'total and deterministic' (their statements: YtpahalfiiahddaaTotals.lean).
  GIVEN WITH THE SEED: the statements are not yours to turn. If you find one false, say at which input.
  Laid BY PROGRAM, IN A SANDBOX (cutbox-rows.mjs): the forced cells as the released guide's own fill.sh prints them over the translation 6c8d92ddea91ebf3… (all of the seat's roots in one cut). By AI agents, Wed Nov 11 2026. No macro, syntax, notation, axiom, sorry.
-/
import Derived.Test.YtpahalfiiahddaaChecked
import GoSem.Claim
import GoSem.ClaimJoined
import GoSem.ClaimMapViews
import Derived.JoinedTies
import Derived.KernelRfl
namespace Go.Proofs.Ytpahalfiiahddaa
/- THE CELL 'sum', in the pinned program and in every row, IS THE sha256 OF THE DUMP (.gsa) THAT YtpahalfiiahddaaProg.lean LOADS. Nothing in Lean hashes anything: it is a label: what it is worth is what the hold of that sum in a sandbox is worth. -/
noncomputable def Try.pinned : Pinned := { name := "ytpahalfiiahddaa", sum := "6c8d92ddea91ebf3a1d3a59b92844706e8ce7e111efde3ee5b9d33d44944cead", checked := Try.checked }
namespace Rows
def none {H : Type} : Left H := { results := [], args := [] }

/-- 'laws.FnExactCallSites': WHATEVER THE INPUT: true; the input reads as it did. -/
def fnExactCallSitesSpec : ChangeSpec := { name := "fnExactCallSites", fn := fun _ => fun
  | [d1, d2] => { results := [.lit (.bool true)], args := [d1, d2] }
  | _ => none }
def fnExactCallSitesRow : OpenClaim := { program := "ytpahalfiiahddaa", sum := "6c8d92ddea91ebf3a1d3a59b92844706e8ce7e111efde3ee5b9d33d44944cead", func := "loop.example/refcountml/laws.FnExactCallSites", spec := "fnExactCallSites", unfollowed := true, recurses := true, loops := true, apart := false }
def FnExactCallSitesSaid : Prop := fnExactCallSitesRow.holds Try.pinned (OpenSpec.ofChange fnExactCallSitesSpec)

/-- ITS FALSE NEIGHBOUR: 'it returns false'. Refute it at one input. -/
def fnExactCallSitesWrong : ChangeSpec := { name := "fnExactCallSites", fn := fun _ => fun
  | [d1, d2] => { results := [.lit (.bool false)], args := [d1, d2] }
  | _ => none }
def FnExactCallSitesWrongFalsely : Prop := fnExactCallSitesRow.holds Try.pinned (OpenSpec.ofChange fnExactCallSitesWrong)

/-- 'laws.FnExactMayInline': WHATEVER THE INPUT: true; the input reads as it did. -/
def fnExactMayInlineSpec : ChangeSpec := { name := "fnExactMayInline", fn := fun _ => fun
  | [d1, d2] => { results := [.lit (.bool true)], args := [d1, d2] }
  | _ => none }
def fnExactMayInlineRow : OpenClaim := { program := "ytpahalfiiahddaa", sum := "6c8d92ddea91ebf3a1d3a59b92844706e8ce7e111efde3ee5b9d33d44944cead", func := "loop.example/refcountml/laws.FnExactMayInline", spec := "fnExactMayInline", unfollowed := true, recurses := true, loops := true, apart := false }
def FnExactMayInlineSaid : Prop := fnExactMayInlineRow.holds Try.pinned (OpenSpec.ofChange fnExactMayInlineSpec)

/-- ITS FALSE NEIGHBOUR: 'it returns false'. Refute it at one input. -/
def fnExactMayInlineWrong : ChangeSpec := { name := "fnExactMayInline", fn := fun _ => fun
  | [d1, d2] => { results := [.lit (.bool false)], args := [d1, d2] }
  | _ => none }
def FnExactMayInlineWrongFalsely : Prop := fnExactMayInlineRow.holds Try.pinned (OpenSpec.ofChange fnExactMayInlineWrong)

/-- 'laws.FnCallSites': WHATEVER THE INPUT: true; the input reads as it did. -/
def fnCallSitesSpec : ChangeSpec := { name := "fnCallSites", fn := fun _ => fun
  | [d] => { results := [.lit (.bool true)], args := [d] }
  | _ => none }
def fnCallSitesRow : OpenClaim := { program := "ytpahalfiiahddaa", sum := "6c8d92ddea91ebf3a1d3a59b92844706e8ce7e111efde3ee5b9d33d44944cead", func := "loop.example/refcountml/laws.FnCallSites", spec := "fnCallSites", unfollowed := true, recurses := true, apart := false }
def FnCallSitesSaid : Prop := fnCallSitesRow.holds Try.pinned (OpenSpec.ofChange fnCallSitesSpec)

/-- ITS FALSE NEIGHBOUR: 'it returns false'. Refute it at one input. -/
def fnCallSitesWrong : ChangeSpec := { name := "fnCallSites", fn := fun _ => fun
  | [d] => { results := [.lit (.bool false)], args := [d] }
  | _ => none }
def FnCallSitesWrongFalsely : Prop := fnCallSitesRow.holds Try.pinned (OpenSpec.ofChange fnCallSitesWrong)

/-- 'laws.FnMayInline': WHATEVER THE INPUT: true; the input reads as it did. -/
def fnMayInlineSpec : ChangeSpec := { name := "fnMayInline", fn := fun _ => fun
  | [d] => { results := [.lit (.bool true)], args := [d] }
  | _ => none }
def fnMayInlineRow : OpenClaim := { program := "ytpahalfiiahddaa", sum := "6c8d92ddea91ebf3a1d3a59b92844706e8ce7e111efde3ee5b9d33d44944cead", func := "loop.example/refcountml/laws.FnMayInline", spec := "fnMayInline", unfollowed := true, recurses := true, apart := false }
def FnMayInlineSaid : Prop := fnMayInlineRow.holds Try.pinned (OpenSpec.ofChange fnMayInlineSpec)

/-- ITS FALSE NEIGHBOUR: 'it returns false'. Refute it at one input. -/
def fnMayInlineWrong : ChangeSpec := { name := "fnMayInline", fn := fun _ => fun
  | [d] => { results := [.lit (.bool false)], args := [d] }
  | _ => none }
def FnMayInlineWrongFalsely : Prop := fnMayInlineRow.holds Try.pinned (OpenSpec.ofChange fnMayInlineWrong)

/- THE SECOND FORM. 'bulk': how many values and letters a reading holds, each counted each time it is reached (what is shared counts as often as it is met; a slice's spare places count too). A statement '..UptoSaid' is the law's where the arguments, and the package variables that the reading takes, are together of bulk at most 1048576: NARROWER than '..Said'. Prove '..Said' where nothing that the law and all that it calls make is longer than what came in: it says more and counts as full. Else prove '..UptoSaid'. A law counts once. -/
mutual
def uptoBulk {H : Type} : DataW H → Nat
  | .lit (.string bytes) => bytes.length + 1
  | .lit _ => 1
  | .nil => 1
  | .ptr d => uptoBulk d + 1
  | .slice elems spare => uptoBulkAll elems + uptoBulkAll spare + 1
  | .agg parts => uptoBulkAll parts + 1
  | .iface _ d => uptoBulk d + 1
  | .map entries => uptoBulkEntries entries + 1
  | .held _ => 1
def uptoBulkAll {H : Type} : List (DataW H) → Nat
  | [] => 0
  | d :: r => uptoBulk d + uptoBulkAll r
def uptoBulkEntries {H : Type} : List (Lit × DataW H) → Nat
  | [] => 0
  | x :: r => uptoBulkEntry x + uptoBulkEntries r
def uptoBulkEntry {H : Type} : Lit × DataW H → Nat
  | (.string bytes, d) => bytes.length + uptoBulk d + 1
  | (_, d) => uptoBulk d + 1
 end
def uptoSmall : (H : Type) → List (DataW H) → Bool := fun _ ds => decide (uptoBulkAll ds ≤ 1048576)
def OpenSpec.upto (s : _root_.Go.ChangeSpec) : _root_.Go.OpenSpec := { _root_.Go.OpenSpec.ofChange s with cond := some uptoSmall }

/-- 'laws.FnExactCallSites', WHERE WHAT IT READS IS OF BULK AT MOST 1048576: true; the input reads as it did. -/
def fnExactCallSitesUptoRow : OpenClaim := { program := "ytpahalfiiahddaa", sum := "6c8d92ddea91ebf3a1d3a59b92844706e8ce7e111efde3ee5b9d33d44944cead", func := "loop.example/refcountml/laws.FnExactCallSites", spec := "fnExactCallSites", unfollowed := true, recurses := true, loops := true, apart := false, narrowed := true }
def FnExactCallSitesUptoSaid : Prop := fnExactCallSitesUptoRow.holds Try.pinned (OpenSpec.upto fnExactCallSitesSpec)

/-- 'laws.FnExactMayInline', WHERE WHAT IT READS IS OF BULK AT MOST 1048576: true; the input reads as it did. -/
def fnExactMayInlineUptoRow : OpenClaim := { program := "ytpahalfiiahddaa", sum := "6c8d92ddea91ebf3a1d3a59b92844706e8ce7e111efde3ee5b9d33d44944cead", func := "loop.example/refcountml/laws.FnExactMayInline", spec := "fnExactMayInline", unfollowed := true, recurses := true, loops := true, apart := false, narrowed := true }
def FnExactMayInlineUptoSaid : Prop := fnExactMayInlineUptoRow.holds Try.pinned (OpenSpec.upto fnExactMayInlineSpec)

/-- 'laws.FnCallSites', WHERE WHAT IT READS IS OF BULK AT MOST 1048576: true; the input reads as it did. -/
def fnCallSitesUptoRow : OpenClaim := { program := "ytpahalfiiahddaa", sum := "6c8d92ddea91ebf3a1d3a59b92844706e8ce7e111efde3ee5b9d33d44944cead", func := "loop.example/refcountml/laws.FnCallSites", spec := "fnCallSites", unfollowed := true, recurses := true, apart := false, narrowed := true }
def FnCallSitesUptoSaid : Prop := fnCallSitesUptoRow.holds Try.pinned (OpenSpec.upto fnCallSitesSpec)

/-- 'laws.FnMayInline', WHERE WHAT IT READS IS OF BULK AT MOST 1048576: true; the input reads as it did. -/
def fnMayInlineUptoRow : OpenClaim := { program := "ytpahalfiiahddaa", sum := "6c8d92ddea91ebf3a1d3a59b92844706e8ce7e111efde3ee5b9d33d44944cead", func := "loop.example/refcountml/laws.FnMayInline", spec := "fnMayInline", unfollowed := true, recurses := true, apart := false, narrowed := true }
def FnMayInlineUptoSaid : Prop := fnMayInlineUptoRow.holds Try.pinned (OpenSpec.upto fnMayInlineSpec)

end Rows
end Go.Proofs.Ytpahalfiiahddaa
