import Derived.Test.YtgcghdgbahfcjaaGreatGPlainAToHMF
import Derived.Test.YtgcghdgbahfcjaaGreatVSDefs

namespace RC
open Go
def fz (f : RFrame) : Nat := f.regs.length + f.own.length + f.held.length
def stz (s : RState) : Nat := s.out.length + hsize s.heap + (s.frames.length + (s.frames.map fz).sum)
theorem szCellS_lft {h : List Cell} (H : HeapIn h) {left : Int} (h0 : 0 ≤ left) (h1 : left ≤ 1048576) {N : Nat} (hN : 2000000 ≤ N) : laws_szCellS N h left = some (lft left (hsize h)) := by
 unfold laws_szCellS
 have hlen := H.2
 rw [len_def, w_id (by omega) (by omega)]
 have hf : fsum h = (h.map (fun c => c.fields.length)).sum := rfl
 by_cases h2 : left - (h.length : Int) < 0
 ·rw [if_pos (by simpa using h2), lft_neg (by unfold hsize; omega)]
 ·rw [if_neg (by simpa using h2), sz_list (l := h) (fun c => c.fields.length) (laws_szCellS_L1 h) (fun n left => by rw [laws_szCellS_L1, if_neg (by simp [len_def])]) (fun n i x left hx a b => ?_) (by omega) (by omega) (by omega)]
  ·by_cases g : left - (h.length : Int) - ((h.map (fun c => c.fields.length)).sum : Nat) < 0
   ·rw [if_pos g, lft_neg (by unfold hsize; omega)]; rfl
   ·rw [if_neg g, lft_pos (by unfold hsize; omega)]
    show some _ = some _
    congr 1; unfold hsize; omega
  ·have hi := (List.getElem?_eq_some_iff.1 hx).1
   rw [laws_szCellS_L1, if_pos (by simp [len_def]; omega), get_lt hx]
   simp only [Option.bind_some]
   rw [szCell_eq a b (H.1 x (List.mem_of_getElem? hx)), w_id (by omega) (by omega), show ((i : Int) + 1) = ((i + 1 : Nat) : Int) by omega]
   simp only [Option.bind_some]
   by_cases g : left - (x.fields.length : Int) < 0
   ·rw [if_pos g]; simp [g]
   ·rw [if_neg g, if_neg (by simpa using g)]
    simp [g]
theorem szFrame_eq {p : RFrame} (hp : RFrameIn p) {left : Int} (h0 : 0 ≤ left) (h1 : left ≤ 1048576) : laws_szFrame p left = some (lft left (fz p)) := by
 unfold laws_szFrame
 rw [szIntS_eq h0 h1 hp.regs.2]
 simp only [Option.bind_some]
 by_cases a : left - (p.regs.length : Int) < 0
 ·rw [if_pos a, lft_neg (by unfold fz; omega)]; rfl
 ·rw [if_neg a, if_neg (by simpa using a), szIntS_eq (by omega) (by omega) hp.own.2]
  simp only [Option.bind_some]
  by_cases b : left - (p.regs.length : Int) - (p.own.length : Int) < 0
  ·rw [if_pos b, lft_neg (by unfold fz; omega)]; rfl
  ·rw [if_neg b, if_neg (by simpa using b), szIntS_eq (by omega) (by omega) hp.held.2]
   simp only [Option.bind_some]
   by_cases c : left - (p.regs.length : Int) - (p.own.length : Int) - (p.held.length : Int) < 0
   ·rw [if_pos c, lft_neg (by unfold fz; omega)]; rfl
   ·rw [if_neg c, if_neg (by simpa using c), lft_pos (by unfold fz; omega)]
    congr 1; unfold fz; omega
theorem szFrameS_eq {l : List RFrame} (hl : ListIn RFrameIn l) {left : Int} (h0 : 0 ≤ left) (h1 : left ≤ 1048576) {N : Nat} (hN : 2000000 ≤ N) : laws_szFrameS N l left = some (lft left (l.length + (l.map fz).sum)) := by
 unfold laws_szFrameS
 have hlen := hl.2
 rw [len_def, w_id (by omega) (by omega)]
 by_cases h : left - (l.length : Int) < 0
 ·rw [if_pos (by simpa using h), lft_neg (by omega)]
 ·rw [if_neg (by simpa using h), sz_list (l := l) fz (laws_szFrameS_L1 l) (fun n left => by rw [laws_szFrameS_L1, if_neg (by simp [len_def])]) (fun n i x left hx a b => ?_) (by omega) (by omega) (by omega)]
  ·by_cases g : left - (l.length : Int) - ((l.map fz).sum : Nat) < 0
   ·rw [if_pos g, lft_neg (by omega)]; rfl
   ·rw [if_neg g, lft_pos (by omega)]
    show some _ = some _
    congr 1; omega
  ·have hi := (List.getElem?_eq_some_iff.1 hx).1
   rw [laws_szFrameS_L1, if_pos (by simp [len_def]; omega), get_lt hx]
   simp only [Option.bind_some]
   rw [szFrame_eq (hl.1 x (List.mem_of_getElem? hx)) a b, w_id (by omega) (by omega), show ((i : Int) + 1) = ((i + 1 : Nat) : Int) by omega]
   simp only [Option.bind_some]
   by_cases g : left - (fz x : Int) < 0
   ·rw [if_pos g, lft_neg g]; rfl
   ·rw [if_neg g, lft_pos g, if_neg (by simpa using g)]
theorem szState_eq {s : RState} (hs : RStateIn s) {left : Int} (h0 : 0 ≤ left) (h1 : left ≤ 1048576) {N : Nat} (hN : 2000000 ≤ N) : laws_szState N s left = some (lft left (stz s)) := by
 unfold laws_szState
 rw [szIntS_eq h0 h1 hs.out.2]
 simp only [Option.bind_some]
 by_cases a : left - (s.out.length : Int) < 0
 ·rw [if_pos a, lft_neg (by unfold stz; omega)]; rfl
 ·rw [if_neg a, if_neg (by simpa using a), szCellS_lft hs.heap (by omega) (by omega) hN]
  simp only [Option.bind_some]
  by_cases b : left - (s.out.length : Int) - (hsize s.heap : Int) < 0
  ·rw [lft_neg b, lft_neg (by unfold stz; omega)]; rfl
  ·rw [lft_pos b, if_neg (by simpa using b), szFrameS_eq hs.frames (by omega) (by omega) hN]
   simp only [Option.bind_some]
   by_cases c : left - (s.out.length : Int) - (hsize s.heap : Int) - ((s.frames.length + (s.frames.map fz).sum : Nat) : Int) < 0
   ·rw [lft_neg c, lft_neg (by unfold stz; omega)]; rfl
   ·rw [lft_pos c, if_neg (by simpa using c), lft_pos (by unfold stz; omega)]
    congr 1; unfold stz; omega
theorem toFrame_eq {p : RFrame} (h : fz p ≤ 1048576) {N : Nat} (hN : 2000000 ≤ N) : laws_toFrame N p = some p := by
 unfold fz at h
 unfold laws_toFrame; rw [toIntS_eq (by omega) hN, toIntS_eq (by omega) hN, toIntS_eq (by omega) hN]; rfl
theorem toFrameS_eq {l : List RFrame} (hl : l.length + (l.map fz).sum ≤ 1048576) {N : Nat} (hN : 2000000 ≤ N) : laws_toFrameS N l = some l := by
 unfold laws_toFrameS
 rw [len_def, mk_ok _ _ _ (by omega) (by omega)]
 simp only [Option.bind_some]
 rw [to_list (l := l) (laws_toFrameS_L1 N l) (fun n m => by rw [laws_toFrameS_L1, if_neg (by simp [len_def])]) (fun n i x m hx hm => ?_) (by omega) (by simp)]
 ·rfl
 ·have hi := (List.getElem?_eq_some_iff.1 hx).1
  have hz := mem_sum fz (List.mem_of_getElem? hx)
  obtain ⟨y, hy, _⟩ := at_lt (l := m) (i := i) (by omega)
  rw [laws_toFrameS_L1, if_pos (by simp [len_def]; omega), get_lt hx]
  simp only [Option.bind_some]
  rw [toFrame_eq (by omega) hN, get_lt hy]
  simp only [Option.bind_some]
  rw [put_nat, w_id (by omega) (by omega), show ((i : Int) + 1) = ((i + 1 : Nat) : Int) by omega]
theorem stHp {s : RState} (hs : RStateIn s) (h : stz s ≤ 1048576) : Hp s.heap := Hp.of hs.heap (by unfold stz at h; omega)
theorem toState_eq {s : RState} (hs : RStateIn s) (h : stz s ≤ 1048576) {N : Nat} (hN : 2000000 ≤ N) : laws_toState N s = some s := by
 have H := stHp hs h
 unfold stz at h
 unfold laws_toState; rw [toIntS_eq (by omega) hN, toCellS_eq H hN, toFrameS_eq (by omega) hN]; rfl
theorem eqFrame_eq {p : RFrame} (h : fz p ≤ 1048576) {N : Nat} (hN : 2000000 ≤ N) : laws_eqFrame N p p = some true := by
 unfold fz at h
 unfold laws_eqFrame; rw [eqIntS_eq (by omega) hN, eqIntS_eq (by omega) hN, eqIntS_eq (by omega) hN]; simp
theorem eqFrameS_eq {l : List RFrame} (hl : l.length + (l.map fz).sum ≤ 1048576) {N : Nat} (hN : 2000000 ≤ N) : laws_eqFrameS N l l = some true := by
 unfold laws_eqFrameS
 have L := all_loop (l := l) (laws_eqFrameS_L1 N l l) (fun _ _ => true) (fun n => by rw [laws_eqFrameS_L1, if_neg (by simp [len_def])]) (fun n i x hx => ?_) (by omega : l.length < N)
 ·rw [allAt_all (p := fun _ => true)] at L
  simp [L, Sh.cont]
 ·have hi := (List.getElem?_eq_some_iff.1 hx).1
  have hz := mem_sum fz (List.mem_of_getElem? hx)
  rw [laws_eqFrameS_L1, if_pos (by simp [len_def]; omega), get_lt hx]
  simp only [Option.bind_some]
  rw [eqFrame_eq (by omega) hN, w_id (by omega) (by omega), show ((i : Int) + 1) = ((i + 1 : Nat) : Int) by omega]
  rfl
theorem eqState_eq {s : RState} (hs : RStateIn s) (h : stz s ≤ 1048576) {N : Nat} (hN : 2000000 ≤ N) : laws_eqState N s s = some true := by
 have H := stHp hs h
 unfold stz at h
 unfold laws_eqState; rw [eqIntS_eq (by omega) hN, eqCellS_eq H hN, eqFrameS_eq (by omega) hN]; simp
end RC

