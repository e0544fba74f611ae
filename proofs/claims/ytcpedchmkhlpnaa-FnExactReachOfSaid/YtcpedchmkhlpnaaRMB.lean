import Derived.Test.YtcpedchmkhlpnaaRMA
import Derived.Test.YtcpedchmkhlpnaaHNE
namespace RC
open Go

theorem nats_le {m : Nat → Bool} {n : Nat} : (nats (mk m n 0)).length ≤ n := by rw [nats_len]; have := mk_len m n 0; omega

theorem FnExactReachOf_plain {h : List Cell} {W : List Int} (H : HeapIn h) (HW : ListIn I64 W) : laws_FnExactReachOf 4000000 h W = some true := by
  unfold laws_FnExactReachOf
  rw [szCellS_eq H (by omega), len_def]
  by_cases hw : (1048576 : Int) < W.length
  · simp [hw]
  have hw2 : W.length ≤ 1048576 := by omega
  by_cases hs : hsize h ≤ 1048576
  · have Hh := Hp.of H hs
    have hf : fsum h ≤ 1048576 := by unfold hsize at hs; omega
    obtain ⟨out, h1, h2, h3, h4⟩ := ReachOf_bothN Hh HW.1 hw2 (N := 4000000) (by omega) (by omega) (by omega)
    have hol : out.length ≤ 1048576 := by
      by_cases hv : VH h
      · obtain ⟨m, _, rfl⟩ := h4 hv
        have := nats_le (m := m) (n := h.length)
        have := Hh.len
        omega
      · rw [h3 hv]; simp
    have hc := csz_le Hh
    have k1 := markCellS_eq Hh (k := 1) (by omega) (N := 4000000) (by omega)
    have k2 := markIntS_eq hw2 (k := 1 + csz h) (by omega) (N := 4000000) (by omega)
    have k3 := markIntS_eq hol (k := 1) (by omega) (N := 4000000) (by omega)
    have k4 := heldIntS_eq hol (k := 1) (by omega) (N := 4000000) (by omega)
    rw [show ((1 : Nat) : Int) = 1 from rfl] at k1 k3 k4
    have d0 : ¬ (1048576 - (hsize h : Int) < 0) := by omega
    have d1 : ¬ ((((1 + csz h + W.length : Nat)) : Int) < 0) := by omega
    have d2 : ¬ ((((1 + out.length : Nat)) : Int) < 0) := by omega
    simp only [hw, hs, d0, d1, d2, decide_false, decide_true, Bool.false_eq_true, if_false, if_true, Option.bind_some, toCellS_eq Hh (N := 4000000) (by omega), toIntS_eq hw2 (N := 4000000) (by omega), h1, h2, eqIntS_eq hol (N := 4000000) (by omega), eqIntS_eq hw2 (N := 4000000) (by omega), eqCellS_eq Hh (N := 4000000) (by omega), Bool.not_true, k1, k2, k3, k4]
  · simp [hw, hs]
end RC
