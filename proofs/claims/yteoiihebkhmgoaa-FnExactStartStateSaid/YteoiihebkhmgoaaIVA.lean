import Derived.Test.YteoiihebkhmgoaaGPlainAToHMF
import Derived.Test.YteoiihebkhmgoaaGHADefsToSTDefs

namespace RC
open Go
def fz (f : RFrame) : Nat := f.regs.length + f.own.length + f.held.length
def stz (s : RState) : Nat := s.out.length + hsize s.heap + (s.frames.length + (s.frames.map fz).sum)
theorem stHp {s : RState} (hs : RStateIn s) (h : stz s ≤ 1048576) : Hp s.heap := Hp.of hs.heap (by unfold stz at h; omega)
theorem eqFrame_eq {p : RFrame} (h : fz p ≤ 1048576) {N : Nat} (hN : 2000000 ≤ N) : laws_eqFrame N p p = some true := by
 unfold fz at h
 unfold laws_eqFrame; rw [eqIntS_eq (by omega) hN, eqIntS_eq (by omega) hN, eqIntS_eq (by omega) hN]; simp
theorem eqFrameS_eq {l : List RFrame} (hl : l.length + (l.map fz).sum ≤ 1048576) {N : Nat} (hN : 2000000 ≤ N) : laws_eqFrameS N l l = some true := by
 unfold laws_eqFrameS
 have L := all_loop (l := l) (laws_eqFrameS_L1 N l l) (fun _ _ => true) (fun n => by rw [laws_eqFrameS_L1, if_neg (by simp [len_def])]) (fun n i x hx => ?_) (by omega : l.length < N)
 ·rw [allAt_all (p := fun _ => true)] at L
  simp [L, Sh.cont]
 ·have hi := (List.getElem?_eq_some_iff.1 hx).1
  have hz := mem_sum fz (List.mem_of_getElem? hx)
  rw [laws_eqFrameS_L1, if_pos (by simp [len_def]; omega), get_lt hx]
  simp only [Option.bind_some]
  rw [eqFrame_eq (by omega) hN, w_id (by omega) (by omega), show ((i : Int) + 1) = ((i + 1 : Nat) : Int) by omega]
  rfl
theorem eqState_eq {s : RState} (hs : RStateIn s) (h : stz s ≤ 1048576) {N : Nat} (hN : 2000000 ≤ N) : laws_eqState N s s = some true := by
 have H := stHp hs h
 unfold stz at h
 unfold laws_eqState; rw [eqIntS_eq (by omega) hN, eqCellS_eq H hN, eqFrameS_eq (by omega) hN]; simp
end RC

