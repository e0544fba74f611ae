/- The program's data as cells that own what lies under them. -/
import Derived.Test.YtcpedchmkhlpnaaEncC
import Derived.Test.YtcpedchmkhlpnaaAbsZ
namespace RC
open Go Go.Abs

theorem und_map {α : Type} {l : List α} {enc enc' : α → List AV} (h : ∀ x, undC (enc x) = enc' x) : undR (l.map enc) = l.map enc' := by
  rw [undR_eq, List.map_map]
  exact List.map_congr_left fun x _ => h x
theorem eI_und (n : Int) : undC (eI n) = eI n := rfl

def eCellD (ti : Nat) (c : Cell) : List AV := [.int .i64 c.count, .int .i64 c.tag, .dv ti 1 (c.fields.map eI)]
theorem eCellD_und {ti : Nat} (c : Cell) : undC (eCellD ti c) = eCell c := by
  simp only [eCellD, undC, und, und_map eI_und, eCell]
end RC
