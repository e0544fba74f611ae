/- Results that are heaps: compared, marked, held. -/
import Derived.Test.YtcpedchmkhlpnaaRMA
import Derived.Test.YtcpedchmkhlpnaaRBDefs
import Derived.Test.YtcpedchmkhlpnaaHND
namespace RC
open Go

/-- A heap whose lists are not too long. -/
structure Fit (h : List Cell) : Prop where
  len : h.length ≤ 1200000
  flen : ∀ c ∈ h, c.fields.length ≤ 1048576
  sum : fsum h ≤ 3000000

theorem Hp.fit {h : List Cell} (H : Hp h) : Fit h := ⟨by have := H.len; omega, fun _ hc => H.flen hc, by have := H.size; unfold hsize at this; omega⟩
theorem Fit.nil : Fit [] := ⟨by simp, by simp, by simp [fsum]⟩

theorem eqCellS_fit_L1 {h : List Cell} (F : Fit h) {M : Nat} (hM : 2000000 ≤ M) {N i : Nat} (hi : i ≤ h.length) (hN : h.length - i < N) : laws_eqCellS_L1 M h h N i = some (Sum.inr ()) := by
  have hl := F.len
  refine loop_ind h.length (fun N i => laws_eqCellS_L1 M h h N i = some (Sum.inr ())) ?_ ?_ hi hN
  · intro n
    rw [laws_eqCellS_L1, if_neg (by simp [len_def])]
  · intro n i hi ih
    obtain ⟨x, hx, hxm⟩ := at_lt hi
    rw [laws_eqCellS_L1, if_pos (by simp [len_def]; omega), get_lt hx]
    simp only [Option.bind_some]
    rw [eqCell_eq (F.flen x hxm) hM, w_id (by omega) (by omega), show ((i : Int) + 1) = ((i + 1 : Nat) : Int) by omega]
    simpa using ih
theorem Fit.eq {h : List Cell} (F : Fit h) {N : Nat} (hN : 2000000 ≤ N) : laws_eqCellS N h h = some true := by
  have hl := F.len
  unfold laws_eqCellS
  have := eqCellS_fit_L1 F hN (Nat.zero_le _) (by omega : h.length - 0 < N)
  rw [show ((0 : Nat) : Int) = 0 from rfl] at this
  simp [this]

theorem Fit.csz {h : List Cell} (F : Fit h) : csz h ≤ 6000000 := by have := F.len; have := F.sum; unfold RC.csz; omega
theorem Fit.mark {h : List Cell} (F : Fit h) {k : Nat} (hk : k ≤ 30000000) {N : Nat} (hN : 2000000 ≤ N) : laws_markCellS N h (k : Int) = some (((k + RC.csz h : Nat) : Int), markC k h) := by
  unfold laws_markCellS
  have hl := F.len
  have := markCellS_L1_eq hN h [] k N (by omega) (by simp; omega) F.flen (by have := F.csz; omega)
  rw [List.length_nil, List.nil_append, List.nil_append] at this
  rw [show (0 : Int) = ((0 : Nat) : Int) from rfl, this]; rfl

theorem heldCellS_L1_eq {N : Nat} (hN : 2000000 ≤ N) : ∀ (B A : List Cell) (k n : Nat), B.length < n → A.length + B.length ≤ 2000000 → (∀ c ∈ B, c.fields.length ≤ 1048576) → k + csz B ≤ 40000000 →
    laws_heldCellS_L1 N (A ++ markC k B) n (k : Int) (A.length : Int) = some (Sum.inr (((k + csz B : Nat) : Int)))
  | [], A, k, n, hn, _, _, _ => by
    obtain ⟨n, rfl⟩ : ∃ m, n = m + 1 := ⟨n - 1, by simp at hn; omega⟩
    rw [laws_heldCellS_L1, if_neg (by simp [len_def, markC])]; simp [csz, fsum]
  | c :: B, A, k, n, hn, h1, hf, h2 => by
    have hfc := hf c (by simp)
    rw [csz_cons] at h2 ⊢
    simp only [List.length_cons] at hn h1
    obtain ⟨n, rfl⟩ : ∃ m, n = m + 1 := ⟨n - 1, by omega⟩
    have ih := heldCellS_L1_eq hN B (A ++ [⟨(k : Int), ((k + 1 : Nat) : Int), ramp (k + 2) c.fields.length⟩]) (k + 2 + c.fields.length) n (by omega) (by simp; omega) (fun c hc => hf c (by simp [hc])) (by omega)
    have e2 : ((k : Int) + 1) = ((k + 1 : Nat) : Int) := by omega
    have e3 : (((k + 1 : Nat) : Int) + 1) = ((k + 2 : Nat) : Int) := by omega
    rw [laws_heldCellS_L1, if_pos (by simp [len_def, markC_len]; omega)]
    simp only [markC]
    rw [get_mid]
    simp only [Option.bind_some]
    rw [w_id (n := (k : Int) + 1) (by omega) (by omega), e2, w_id (n := ((k + 1 : Nat) : Int) + 1) (by omega) (by omega), e3, heldIntS_eq hfc (by omega) hN]
    have d1 : ¬ (((k + 2 + c.fields.length : Nat) : Int) < 0) := by omega
    simp only [Option.bind_some, decide_true, Bool.not_true, Bool.false_eq_true, if_false, d1, decide_false]
    rw [w_id (by omega) (by omega)]
    rw [List.length_append, List.append_assoc] at ih
    simp only [List.length_cons, List.length_nil, List.cons_append, List.nil_append] at ih
    have e1 : ((A.length : Int) + 1) = ((A.length + (0 + 1) : Nat) : Int) := by omega
    rw [e1, ih]
    simp only [show k + 2 + c.fields.length + csz B = k + (2 + c.fields.length + csz B) by omega]

theorem Fit.held {h : List Cell} (F : Fit h) {k : Nat} (hk : k ≤ 30000000) {N : Nat} (hN : 2000000 ≤ N) : laws_heldCellS N (markC k h) (k : Int) = some (((k + RC.csz h : Nat) : Int)) := by
  unfold laws_heldCellS
  have hl := F.len
  have := heldCellS_L1_eq hN h [] k N (by omega) (by simp; omega) F.flen (by have := F.csz; omega)
  rw [List.length_nil, List.nil_append] at this
  rw [show (0 : Int) = ((0 : Nat) : Int) from rfl, this]; rfl

theorem Fit.dup {h : List Cell} (H : Hp h) {w : Int} (M : mayDup h w) : Fit (dup h w) := by
  have hl := H.len
  have hs := H.size
  unfold hsize at hs
  refine ⟨by rw [len_dup]; omega, fun c hc => ?_, ?_⟩
  · unfold RC.dup at hc
    split at hc
    · rcases List.mem_or_eq_of_mem_set hc with h | rfl
      · exact H.flen h
      · by_cases hj : (w - 1000).toNat < h.length
        · exact H.flen (c := cat h (w - 1000).toNat) (cat_mem hj)
        · have : cat h (w - 1000).toNat = ⟨0, 0, []⟩ := by unfold cat; rw [List.getElem?_eq_none (by omega)]; rfl
          simp [this]
    · exact H.flen hc
  · unfold RC.dup
    split
    · by_cases hj : (w - 1000).toNat < h.length
      · have := fsum_set (c := ⟨ct h (w - 1000).toNat + 1, (cat h (w - 1000).toNat).tag, (cat h (w - 1000).toNat).fields⟩) hj
        rw [fl_cat] at this
        simp only at this
        omega
      · rw [List.set_eq_of_length_le (by omega)]; omega
    · omega

theorem FnExactDupWord_plain {h : List Cell} {w : Int} (H : HeapIn h) (hw : I64 w) : laws_FnExactDupWord 2000000 h w = some true := by
  unfold laws_FnExactDupWord
  rw [szCellS_eq H (by omega)]
  by_cases hs : hsize h ≤ 1048576
  · have Hh := Hp.of H hs
    obtain ⟨b, h1, h2, h3⟩ := DupWord_both Hh hw (N := 2000000) (by omega)
    have F : Fit (if b then dup h w else []) := by
      cases b with
      | false => exact Fit.nil
      | true => exact Fit.dup Hh (h3.1 rfl)
    revert F h1 h2
    generalize (if b then dup h w else []) = g
    intro h1 h2 F
    have k1 := Hh.fit.mark (k := 1) (by omega) (N := 2000000) (by omega)
    have k2 := F.mark (k := 1) (by omega) (N := 2000000) (by omega)
    have k3 := F.held (k := 1) (by omega) (N := 2000000) (by omega)
    rw [show ((1 : Nat) : Int) = 1 from rfl] at k1 k2 k3
    have d0 : ¬ (1048576 - (hsize h : Int) < 0) := by omega
    have d1 : ∀ n : Nat, ¬ ((((1 + n : Nat)) : Int) < 0) := fun n => by omega
    simp only [hs, d0, d1, decide_false, decide_true, Bool.false_eq_true, if_false, if_true, Option.bind_some, toCellS_eq Hh (N := 2000000) (by omega), h1, h2, F.eq (N := 2000000) (by omega), eqCellS_eq Hh (N := 2000000) (by omega), Bool.not_true, k1, k2, k3, bne_self_eq_false]
  · simp [hs]
end RC
