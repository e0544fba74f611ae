import Derived.Test.YteoiihebkhmgoaaGHADefsToSTDefs
import Derived.Test.YteoiihebkhmgoaaIVG
import Derived.Test.YteoiihebkhmgoaaIWD

namespace RC
open Go
theorem markImage_le {x : RImage} (h : imz x ≤ 1048576) {N : Nat} (hN : 2000000 ≤ N) : ∃ (k : Nat) (r : List RDecl × List RProc), k ≤ 10000000 ∧ laws_markImage N x.decls x.procs 1 = some ((k : Int), r.1, r.2) := by
 have hd : ∀ d ∈ x.decls, dz d ≤ 1048576 := fun d hd => by have := mem_sum dz hd; unfold imz at h; omega
 have hp : ∀ p ∈ x.procs, pz p ≤ 1048576 := fun p hp => by have := mem_sum pz hp; unfold imz at h; omega
 have b1 := sum_le (f := dzM) (g := dz) (a := 2) (b := 1) (l := x.decls) fun d _ => by unfold dzM dz; omega
 have b2 := sum_le (f := pzM) (g := pz) (a := 2) (b := 4) (l := x.procs) fun p _ => by have := codeM p; unfold pzM pz; omega
 unfold imz at h
 obtain ⟨k1, l1, g1, g2⟩ := markDeclS_eq (l := x.decls) (k := 1) hN (by omega) hd (by omega)
 obtain ⟨k2, l2, g3, g4⟩ := markProcS_eq (l := x.procs) (k := k1) hN (by omega) hp (by omega)
 refine ⟨k2, (l1, l2), by omega, ?_⟩
 unfold laws_markImage
 rw [show ((1 : Nat) : Int) = 1 from rfl] at g2
 rw [g2]
 simp only [Option.bind_some]
 rw [g4]; rfl
end RC

