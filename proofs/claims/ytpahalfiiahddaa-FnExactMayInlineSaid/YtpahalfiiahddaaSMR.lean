import Derived.Test.YtpahalfiiahddaaAbsRB
import Derived.Test.YtpahalfiiahddaaGPlainAToUGDefs

namespace Go.Abs
open Go RC Go.ChangeShapes Go.WideShapes Go.ChangeAt Go.RowKit
section
variable {H : Type} {encH : TypeId × Value → H} {P : Program} {w : World}
def Opens (encH : TypeId × Value → H) (P : Program) (w : World) (T : TypeId) (ts : List TypeId) : Prop :=
 ∀ fuel cs x, DataW.trod encH P w 0 (fun _ => true) true fuel T cs = some x → cs.length = ts.length ∧ ∃ n, fuel = n + 1 ∧ ∀ (i : Nat) t c, ts[i]? = some t → cs[i]? = some c → ∃ y, DataW.trod encH P w 0 (fun _ => true) true n t [c] = some y
theorem Opens.mk {T : TypeId} {fs : Array Field} (hu : P.underlying T = some (.struct fs)) (hc : P.cellsOf T = fs.size) (hf : ∀ (i : Nat) f, fs[i]? = some f → f.offset = i ∧ P.cellsOf f.type = 1) : Opens encH P w T (fs.toList.map Field.type) := fun fuel cs x h => by
 obtain ⟨hl, n, hn, hy⟩ := trod_fieldN hu h
 refine ⟨by simp [hl, hc], n, hn, fun i t c ht hci => ?_⟩
 simp only [List.getElem?_map, Option.map_eq_some_iff] at ht
 obtain ⟨f, hfi, rfl⟩ := ht
 have hfi' : fs[i]? = some f := by simpa using hfi
 obtain ⟨ho, h1⟩ := hf i f hfi'
 have := hy i f hfi'
 rw [ho, h1] at this
 obtain ⟨hi, hg⟩ := List.getElem?_eq_some_iff.1 hci
 rw [List.drop_eq_getElem_cons hi, hg] at this
 simpa using this
end
end Go.Abs

