/- New cells: the law of both programs' likeness. -/
import Derived.Test.YtcpedchmkhlpnaaGKPlainAToKRMC
import Derived.Test.YtcpedchmkhlpnaaREDefs

namespace RC
open Go

theorem szCellS_law {h : List Cell} (H : HeapIn h) {N : Nat} (hN : 9000000 ≤ N) : laws_szCellS N h 1048576 = some (if hsize h ≤ 1048576 then 1048576 - (hsize h : Int) else -1) := by
  unfold laws_szCellS
  have hl := H.2
  rw [len_def, w_id (by omega) (by omega)]
  by_cases h1 : (1048576 : Int) - h.length < 0
  · rw [if_pos (by simpa using h1), if_neg (by unfold hsize; omega)]
  · rw [if_neg (by simpa using h1)]
    have := szCellS_L1_eq H.1 (by omega) (Nat.zero_le _) (by omega : h.length - 0 < N) (1048576 - h.length) (by omega) (by omega)
    rw [show ((0 : Nat) : Int) = 0 from rfl] at this
    rw [this, List.drop_zero]
    by_cases h2 : (1048576 : Int) - h.length - fsum h < 0
    · rw [if_pos h2, if_neg (by unfold hsize; omega)]; rfl
    · rw [if_neg h2, if_pos (by unfold hsize; omega)]
      simp only [Sh.cont_inr]
      congr 1
      unfold hsize; omega

theorem FnExactAllocCell_plain {h : List Cell} {t : Int} {fs : List Int} (H : HeapIn h) (ht : I64 t) (HF : ListIn I64 fs) : laws_FnExactAllocCell 9000000 h t fs = some true := by
  unfold laws_FnExactAllocCell
  rw [szCellS_law H (by omega), len_def]
  by_cases hw : (1048576 : Int) < fs.length
  · simp [hw]
  have hw2 : fs.length ≤ 1048576 := by omega
  by_cases hs : hsize h ≤ 1048576
  · have Hh : Hp h := ⟨by omega, H.1⟩
    obtain ⟨b, h1, h2, h3⟩ := AllocCell_both (N := 9000000) Hh (t := t) (fs := fs) (by omega) ht HF.1 (by omega)
    have F : Fit (if b then (alc h ⟨1, t, fs⟩, 1000 + (ff h : Int)) else ([], 0)).1 := by
      cases b with
      | false => exact Fit.nil
      | true => exact (Hh.alc (c := ⟨1, t, fs⟩) (by show hsize h + 1 + fs.length ≤ 2097160; omega) ⟨⟨by show (-9223372036854775808 : Int) ≤ 1; decide, by show (1 : Int) ≤ 9223372036854775807; decide⟩, ht, HF⟩).fit
    revert F h1 h2
    generalize (if b then (alc h ⟨1, t, fs⟩, 1000 + (ff h : Int)) else ([], 0)) = g
    intro h1 h2 F
    have hc := Hh.fit.csz
    have k1 := Hh.fit.mark (k := 1) (by omega) (N := 9000000) (by omega)
    have k0 := markIntS_eq (l := fs) (by omega) (k := 1 + csz h) (by omega) (N := 9000000) (by omega)
    have k2 := F.mark (k := 1) (by omega) (N := 9000000) (by omega)
    have k3 := F.held (k := 1) (by omega) (N := 9000000) (by omega)
    rw [show ((1 : Nat) : Int) = 1 from rfl] at k1 k2 k3
    have d0 : ¬ (1048576 - (hsize h : Int) < 0) := by omega
    have d1 : ∀ n : Nat, ¬ ((((1 + n : Nat)) : Int) < 0) := fun n => by omega
    have d2 : ∀ n m : Nat, ¬ ((((1 + n + m : Nat)) : Int) < 0) := fun n m => by omega
    simp only [hw, hs, d0, d1, d2, decide_false, decide_true, Bool.false_eq_true, if_false, if_true, Option.bind_some, toCellS_eq Hh (N := 9000000) (by omega), toIntS_eq (l := fs) (by omega) (N := 9000000) (by omega), h1, h2, F.eq (N := 9000000) (by omega), eqCellS_eq Hh (N := 9000000) (by omega),
      eqIntS_eq (l := fs) (by omega) (N := 9000000) (by omega), Bool.not_true, k0, k1, k2, k3]
  · simp [hw, hs]
end RC
