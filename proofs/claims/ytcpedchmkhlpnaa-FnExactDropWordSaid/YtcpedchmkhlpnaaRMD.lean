/- Words dropped: the law of both programs' likeness. -/
import Derived.Test.YtcpedchmkhlpnaaGPlainAToRMC
import Derived.Test.YtcpedchmkhlpnaaRCDefs

namespace RC
open Go

theorem fsum_fl : ∀ (g h : List Cell), g.length ≤ h.length → (∀ j, (fl g j).length ≤ (fl h j).length) → fsum g ≤ fsum h
  | [], h, _, _ => by simp [fsum]
  | c :: g, [], hl, _ => by simp at hl
  | c :: g, d :: h, hl, hf => by
    have h0 := hf 0
    have ih := fsum_fl g h (by simpa using hl) fun j => by simpa [fl] using hf (j + 1)
    simp only [fl, List.getElem?_cons_zero] at h0
    simp only [fsum, List.map_cons, List.sum_cons] at ih ⊢
    omega

theorem Fit.drop {h g : List Cell} (H : Hp h) {W : List Int} (V : VH h) (D : Dr h W g) : Fit g := by
  have hl := H.len
  have hlen := D.len V.zr
  obtain ⟨fr, cn, _, hc, _, _⟩ := D.cat V.zr
  have hf : ∀ j, (fl g j).length ≤ (fl h j).length := fun j => by
    rw [fl_cat, fl_cat, hc]
    unfold gg
    split
    · simp
    · exact Nat.le_refl _
  have hs := fsum_fl g h hlen hf
  have hsz := H.size
  unfold hsize at hsz
  refine ⟨by omega, fun c hcm => ?_, by omega⟩
  have := fsum_mem hcm
  omega

theorem FnExactDropWord_plain {h : List Cell} {w : Int} (H : HeapIn h) (hw : I64 w) : laws_FnExactDropWord 2000000 h w = some true := by
  unfold laws_FnExactDropWord
  rw [szCellS_eq H (by omega)]
  by_cases hs : hsize h ≤ 1048576
  · have Hh := Hp.of H hs
    obtain ⟨g, b, h1, h2, h3, h4, h5⟩ := DropWord_both Hh hw (N := 2000000) (by omega)
    have F : Fit g := by
      cases b with
      | false => rw [h5 rfl]; exact Fit.nil
      | true => exact Fit.drop Hh (h3.1 rfl).1 (h4 rfl)
    have k1 := Hh.fit.mark (k := 1) (by omega) (N := 2000000) (by omega)
    have k2 := F.mark (k := 1) (by omega) (N := 2000000) (by omega)
    have k3 := F.held (k := 1) (by omega) (N := 2000000) (by omega)
    rw [show ((1 : Nat) : Int) = 1 from rfl] at k1 k2 k3
    have d0 : ¬ (1048576 - (hsize h : Int) < 0) := by omega
    have d1 : ∀ n : Nat, ¬ ((((1 + n : Nat)) : Int) < 0) := fun n => by omega
    simp only [hs, d0, d1, decide_false, decide_true, Bool.false_eq_true, if_false, if_true, Option.bind_some, toCellS_eq Hh (N := 2000000) (by omega), h1, h2, F.eq (N := 2000000) (by omega), eqCellS_eq Hh (N := 2000000) (by omega), Bool.not_true, k1, k2, k3, bne_self_eq_false]
  · simp [hs]
end RC
