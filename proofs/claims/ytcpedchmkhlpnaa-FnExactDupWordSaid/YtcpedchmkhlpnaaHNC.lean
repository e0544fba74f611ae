/- Valid heaps by their places; what a drop leaves is valid; both ways to drop a word. -/
import Derived.Test.YtcpedchmkhlpnaaHNB
namespace RC
open Go

theorem cellS_iff (h : List Cell) (c : Cell) : cellS h c = true ↔ c.fields.length ≤ 3 ∧ -1 ≤ c.count ∧ c.count ≤ 999999 ∧ (c.count < 1 → c.tag = 0 ∧ (∀ w ∈ c.fields, w = 0) ∧ (c.count < 0 ∨ c.fields = [])) ∧ (1 ≤ c.count → (∀ w ∈ c.fields, wordW h w = true) ∧ 0 ≤ c.tag ∧ c.tag ≤ 99) := by
  unfold cellS zeroB
  by_cases h1 : c.count < 1
  · have h2 : ¬ 1 ≤ c.count := by omega
    simp only [h1, if_true, h2, false_imp_iff, and_true, Bool.and_eq_true, Bool.not_eq_true', Bool.or_eq_false_iff, decide_eq_false_iff_not, decide_eq_true_eq, Bool.or_eq_true, Bool.not_eq_false', List.all_eq_true, forall_const]
    constructor
    · rintro ⟨⟨a, b, d⟩, ⟨e, f⟩, g⟩
      refine ⟨by omega, b, d, e, f, g.imp id fun g => List.eq_nil_of_length_eq_zero (by omega)⟩
    · rintro ⟨a, b, d, e, f, g⟩
      exact ⟨⟨by omega, b, d⟩, ⟨e, f⟩, g.imp id fun g => by simp [g]⟩
  · have h2 : 1 ≤ c.count := by omega
    simp only [h1, if_false, h2, forall_const, false_imp_iff, true_and, Bool.and_eq_true, Bool.not_eq_true', Bool.or_eq_false_iff, decide_eq_false_iff_not, decide_eq_true_eq, Bool.not_eq_false', List.all_eq_true]
    constructor
    · rintro ⟨⟨a, b, d⟩, e, f, g⟩
      exact ⟨by omega, b, d, e, f, g⟩
    · rintro ⟨a, b, d, e, f, g⟩
      exact ⟨⟨by omega, b, d⟩, e, f, g⟩

theorem wordW_ptr {h : List Cell} {w : Int} (hw : 1000 ≤ w) : wordW h w = decide (0 < ct h (w - 1000).toNat) := by
  unfold wordW intW
  have e : decide (w ≤ 999) = false := by simp; omega
  rw [e, Bool.and_false, Bool.or_false]
  have := liveW_ct (h := h) (j := (w - 1000).toNat)
  rwa [← ptr_eq hw] at this
theorem wordW_int {h : List Cell} {w : Int} (hw : ¬ 1000 ≤ w) : wordW h w = decide (-999 ≤ w) := by
  unfold wordW intW
  have e : decide (w ≤ 999) = true := by simp; omega
  rw [liveW_low hw, e, Bool.and_true, Bool.false_or]

theorem VH.cell {h : List Cell} (V : VH h) (j : Nat) : cellS h (cat h j) = true := by
  by_cases hj : j < h.length
  · exact V.cells _ (cat_mem hj)
  · rw [cat_ge (by omega), cellS_iff]; simp
theorem VH.fields {h : List Cell} (V : VH h) : ∀ i, ∀ w ∈ fl h i, 1000 ≤ w → 0 < ct h (w - 1000).toNat := fun i w hw h1 => by
  rw [fl_cat] at hw
  obtain ⟨_, _, _, a, b⟩ := (cellS_iff _ _).1 (V.cell i)
  by_cases hc : (cat h i).count < 1
  · have := (a hc).2.1 w hw; omega
  · have := (b (by omega)).1 w hw
    rw [wordW_ptr h1] at this; simpa using this
theorem VH.zr {h : List Cell} (V : VH h) : Zr h := fun j hj => by
  obtain ⟨_, _, _, a, _⟩ := (cellS_iff _ _).1 (V.cell j)
  unfold ct at hj
  obtain ⟨h1, _, h3⟩ := a (by omega)
  rcases h3 with h3 | h3
  · omega
  · generalize cat h j = c at *
    obtain ⟨c1, c2, c3⟩ := c
    simp only at hj h1 h3
    subst hj; subst h1; subst h3; rfl
theorem VH.cnt {h : List Cell} (V : VH h) {j : Nat} (hj : 0 < ct h j) : (inA h j : Int) ≤ ct h j := by
  have hl : j < h.length := ct_lt (by omega)
  have := V.counts j hl
  unfold okS at this
  rw [cat_lt hl] at this
  simp only at this
  rw [tot_inA, if_pos hj] at this
  have h2 : decide (0 < (cat h j).count) = true := decide_eq_true (show 0 < (cat h j).count from hj)
  rw [h2] at this
  simp at this
  exact this
theorem VH.rk {h : List Cell} (V : VH h) : ∃ rk : Nat → Nat, ∀ i j, 0 < ct h j → 0 < pc (fl h i) j → rk j < rk i := by
  obtain ⟨rk, h1⟩ := V.ranked
  refine ⟨rk, fun i j hj hp => h1 i j ?_⟩
  have hm := pc_pos.1 hp
  have hi : i < h.length := by
    by_cases hi : i < h.length
    · exact hi
    · rw [fl_cat, cat_ge (by omega)] at hm; cases hm
  refine ⟨cat h i, _, cat_lt hi, by rwa [fl_cat] at hm, by rw [liveW_ct]; simpa using hj, by omega⟩
theorem VH.of {h : List Cell} (h1 : lastFree h = false) (h2 : ∀ j, j < h.length → cellS h (cat h j) = true) (h3 : ∀ j, 0 < ct h j → (inA h j : Int) ≤ ct h j) (rk : Nat → Nat) (h4 : ∀ i j, 0 < ct h j → 0 < pc (fl h i) j → rk j < rk i) : VH h := by
  refine ⟨h1, fun c hc => ?_, fun j hj => ?_, rk, fun i j ⟨c, w, a1, a2, a3, a4⟩ => ?_⟩
  · obtain ⟨j, hj⟩ := List.mem_iff_getElem?.1 hc
    have hl := (List.getElem?_eq_some_iff.1 hj).1
    have := h2 j hl
    rwa [cat_of hj] at this
  · unfold okS
    rw [cat_lt hj]
    simp only
    by_cases hc : 0 < ct h j
    · have := h3 j hc
      rw [tot_inA, if_pos hc]
      have e : decide ((cat h j).count < (inA h j : Int)) = false := by simp; exact this
      rw [e]; simp
    · have e : decide (0 < (cat h j).count) = false := by simpa [ct] using hc
      rw [e]; simp
  · obtain ⟨q, c', b1, b2, b3, b4, b5⟩ := liveW_spec a3
    have hq : q = j := by omega
    subst hq
    refine h4 i q (by unfold ct; rw [cat_of b4]; exact b5) (pc_pos.2 ?_)
    rw [fl_cat, cat_of a1, ← b1]; exact a2

theorem Hp.wordI {h : List Cell} {w : Int} (hl : h.length ≤ 1048576) (hw : wordW h w = true) : I64 w := by
  by_cases h1 : 1000 ≤ w
  · rw [wordW_ptr h1] at hw
    have := ct_lt (h := h) (j := (w - 1000).toNat) (by have : 0 < ct h (w - 1000).toNat := (by simpa using hw); omega)
    exact ⟨by omega, by omega⟩
  · rw [wordW_int h1] at hw
    have : -999 ≤ w := by simpa using hw
    exact ⟨by omega, by omega⟩

/-- When words may be dropped. -/
theorem Pre.of {h : List Cell} {W : List Int} (H : Hp h) (V : VH h) (hw : ∀ w ∈ W, wordW h w = true) (hc : ∀ j, 0 < ct h j → ((pc W j + inA h j : Nat) : Int) ≤ ct h j) : Pre h W :=
  ⟨H, V.fields, fun w h1 h2 => by have := hw w h1; rw [wordW_ptr h2] at this; simpa using this, fun w h1 => Hp.wordI H.len (hw w h1), hc⟩

/-! ### What is left -/

theorem gg_ge {h : List Cell} {W t : List Int} {fr : Nat → Bool} {cn : Nat → Int} (D : DI h W t fr cn) {j : Nat} (hj : h.length ≤ j) : gg h fr cn j = ⟨0, 0, []⟩ := by
  have h0 : ct h j = 0 := by unfold ct; rw [cat_ge hj]
  unfold gg
  rw [D.dead (by omega), D.ge j (by omega), h0, cat_ge hj]; rfl
theorem cat_gg {h : List Cell} {W t : List Int} {fr : Nat → Bool} {cn : Nat → Int} (D : DI h W t fr cn) (j : Nat) : cat (rowOf h.length (gg h fr cn)) j = gg h fr cn j := by
  by_cases hj : j < h.length
  · exact cat_rowOf hj
  · rw [cat_ge (by rw [rowOf_len]; omega), gg_ge D (by omega)]
theorem zr_gg {h : List Cell} {W t : List Int} {fr : Nat → Bool} {cn : Nat → Int} (Z : Zr h) (D : DI h W t fr cn) : Zr (rowOf h.length (gg h fr cn)) := fun j hj => by
  unfold ct at hj
  rw [cat_gg D] at hj ⊢
  unfold gg at hj ⊢
  cases hf : fr j with
  | true => rfl
  | false =>
    rw [hf] at hj
    simp only [Bool.false_eq_true, if_false] at hj ⊢
    have h1 : ¬ 0 < ct h j := fun h1 => by have := (D.frz j).2 ⟨h1, hj⟩; rw [hf] at this; cases this
    have h2 := D.ge j (by omega)
    rw [hj] at h2
    have h3 := Z j h2.symm
    rw [hj, h3]
theorem Dr.cat {h g : List Cell} {W : List Int} (Z : Zr h) (D : Dr h W g) : ∃ fr cn, DI h W [] fr cn ∧ (∀ j, cat g j = gg h fr cn j) ∧ lastFree g = false ∧ g.length ≤ h.length := by
  obtain ⟨fr, cn, D, rfl⟩ := D
  refine ⟨fr, cn, D, fun j => ?_, trm_last _, ?_⟩
  · rw [cat_trm (zr_gg Z D), cat_gg D]
  · rw [trm_len]; exact Nat.le_trans (tl_le _ _) (by rw [rowOf_len]; exact Nat.le_refl _)

section
variable {h g : List Cell} {W : List Int} {fr : Nat → Bool} {cn : Nat → Int}

theorem ct_gg (hg : ∀ j, cat g j = gg h fr cn j) (j : Nat) : ct g j = if fr j then 0 else cn j := by
  unfold ct; rw [hg]; unfold gg; cases fr j <;> rfl
theorem fl_gg (hg : ∀ j, cat g j = gg h fr cn j) (j : Nat) : fl g j = if fr j then [] else fl h j := by
  rw [fl_cat, fl_cat, hg]; unfold gg; cases fr j <;> rfl
theorem inA_gg (hg : ∀ j, cat g j = gg h fr cn j) (hl : g.length ≤ h.length) (j : Nat) : inA g j + inF h fr j = inA h j := by
  have e1 : inA g j = inn g (fun _ => true) j h.length := by
    have := inn_more (h := g) (p := fun _ => true) (j := j) (n := g.length) (m := h.length - g.length) (Nat.le_refl _)
    rw [show g.length + (h.length - g.length) = h.length by omega] at this
    exact this.symm
  have e2 : inn g (fun _ => true) j h.length = inn h (fun i => !fr i) j h.length := inn_congr fun i _ => by
    rw [fl_gg hg]
    cases fr i <;> simp [pc_nil]
  have e3 := inn_add (h := h) (p := fun i => !fr i) (q := fr) (j := j) (n := h.length) (fun i _ h1 => by simpa using h1)
  have e4 : inn h (fun i => !fr i || fr i) j h.length = inA h j := inn_congr fun i _ => by cases fr i <;> simp
  rw [e1, e2, ← e4, e3]
theorem cn_pos (P : Pre h W) (D : DI h W [] fr cn) {i j : Nat} (hi : i < h.length) (hf : fr i = false) (hp : 0 < pc (fl h i) j) : 0 < ct h j ∧ 1 ≤ cn j ∧ fr j = false := by
  have hm := pc_pos.1 hp
  have h1 : 0 < ct h j := by
    have := P.fields i _ hm (by omega)
    rwa [show (1000 + (j : Int) - 1000).toNat = j by omega] at this
  have h2 := P.cnt j h1
  have h3 := D.cnt j
  have h4 : inF h (fun k => if k = i then true else fr k) j = inF h fr j + pc (fl h i) j := inn_set hi hf
  have h5 : inF h (fun k => if k = i then true else fr k) j ≤ inA h j := inn_le fun _ _ _ => rfl
  rw [pc_nil] at h3
  have h6 : 1 ≤ cn j := by omega
  refine ⟨h1, h6, ?_⟩
  cases hf' : fr j with
  | false => rfl
  | true => have := ((D.frz j).1 hf').2; omega
theorem cn_nn (P : Pre h W) (D : DI h W [] fr cn) {j : Nat} (hj : 0 < ct h j) : (inA g j : Int) ≥ 0 ∧ (inA h j : Int) - inF h fr j ≤ cn j := by
  have h2 := P.cnt j hj
  have h3 := D.cnt j
  rw [pc_nil] at h3
  exact ⟨by omega, by omega⟩

theorem dr_VH (P : Pre h W) (V : VH h) (D : DI h W [] fr cn) (hg : ∀ j, cat g j = gg h fr cn j) (hl : lastFree g = false) (hlen : g.length ≤ h.length) : VH g := by
  obtain ⟨rk, hrk⟩ := V.rk
  have hct := ct_gg hg
  have hfl := fl_gg hg
  refine VH.of hl (fun j hj => ?_) (fun j hj => ?_) rk fun i j hj hp => ?_
  · rw [cellS_iff, hg]
    unfold gg
    obtain ⟨a1, a2, a3, a4, a5⟩ := (cellS_iff _ _).1 (V.cell j)
    cases hf : fr j with
    | true => simp
    | false =>
      simp only [Bool.false_eq_true, if_false]
      by_cases h1 : 0 < ct h j
      · have h2 := cn_nn (g := g) P D h1
        have h3 := D.le j
        have h4 : cn j ≠ 0 := fun h4 => by have := (D.frz j).2 ⟨h1, h4⟩; rw [hf] at this; cases this
        have h5 : inF h fr j ≤ inA h j := inn_le fun _ _ _ => rfl
        have h6 : 1 ≤ cn j := by omega
        obtain ⟨b1, b2, b3⟩ := a5 (by unfold ct at h1; omega)
        refine ⟨a1, by omega, by unfold ct at h3; omega, fun h => by omega, fun _ => ⟨fun w hw => ?_, b2, b3⟩⟩
        by_cases hw1 : 1000 ≤ w
        · have hp : 0 < pc (fl h j) (w - 1000).toNat := pc_pos.2 (by rw [fl_cat, ← ptr_eq hw1]; exact hw)
          obtain ⟨_, c2, c3⟩ := cn_pos P D (ct_lt (by omega)) hf hp
          rw [wordW_ptr hw1, hct, c3]; simp; omega
        · rw [wordW_int hw1]
          have := b1 w hw
          rwa [wordW_int hw1] at this
      · rw [D.ge j (by omega)]
        refine ⟨a1, a2, a3, a4, fun h => absurd h (by unfold ct at h1 ⊢; omega)⟩
  · rw [hct] at hj ⊢
    cases hf : fr j with
    | true => rw [hf] at hj; simp at hj
    | false =>
      rw [hf] at hj
      simp only [Bool.false_eq_true, if_false] at hj ⊢
      have h1 : 0 < ct h j := by have := D.le j; omega
      have h2 := cn_nn (g := g) P D h1
      have h3 := inA_gg hg hlen j
      omega
  · rw [hfl] at hp
    cases hf : fr i with
    | true => rw [hf] at hp; simp [pc_nil] at hp
    | false =>
      rw [hf] at hp
      simp only [Bool.false_eq_true, if_false] at hp
      have hi : i < h.length := by
        by_cases hi : i < h.length
        · exact hi
        · rw [fl_cat, cat_ge (by omega)] at hp; simp [pc_nil] at hp
      exact hrk i j (cn_pos P D hi hf hp).1 hp
end

theorem Dr.VH {h g : List Cell} {W : List Int} (P : Pre h W) (V : VH h) (D : Dr h W g) : VH g := by
  obtain ⟨fr, cn, D, h1, h2, h3⟩ := D.cat V.zr
  exact dr_VH P V D h1 h2 h3
theorem Dr.same {h g g' : List Cell} {W : List Int} (V : RC.VH h) (D : Dr h W g) (D' : Dr h W g') : g = g' := by
  obtain ⟨rk, hrk⟩ := V.rk
  exact Dr.unique rk hrk D D'
theorem Dr.len {h g : List Cell} {W : List Int} (Z : Zr h) (D : Dr h W g) : g.length ≤ h.length := by
  obtain ⟨_, _, _, _, _, h3⟩ := D.cat Z; exact h3

/-- Integers alone leave the heap as it is. -/
theorem Dr.ints {h : List Cell} {W : List Int} (V : RC.VH h) (hw : ∀ w ∈ W, ¬ 1000 ≤ w) : Dr h W h := by
  refine ⟨fun _ => false, ct h, ⟨fun j => ?_, fun j => ?_, (fun w hw => absurd hw (List.not_mem_nil)), (fun w hw => absurd hw (List.not_mem_nil)), fun j => Int.le_refl _, fun _ _ => rfl⟩, ?_⟩
  · have e0 : inF h (fun _ => false) j = 0 := inn_zero fun i _ hi => absurd hi (by simp)
    have e1 := pc_nil j
    have : pc W j = 0 := by
      unfold pc
      rw [List.countP_eq_zero]
      intro w h1
      have := hw w h1
      simp; omega
    omega
  · simp; omega
  · rw [gg_start, trm_id V.last]

theorem refs_get {h : List Cell} {w : Int} (hw : 1000 ≤ w) (hwi : I64 w) (hj : (w - 1000).toNat < h.length) : Sh.get (refs h) (Sh.w (w - 1000)) = some (tot h h (w - 1000).toNat : Int) := by
  obtain ⟨w1, w2⟩ := hwi
  unfold refs
  rw [w_id (by omega) (by omega), get_pos' (by omega), rowOf_get hj]
theorem cat_get {h : List Cell} {w : Int} (hw : 1000 ≤ w) (hwi : I64 w) (hj : (w - 1000).toNat < h.length) : Sh.get h (Sh.w (w - 1000)) = some (cat h (w - 1000).toNat) := by
  obtain ⟨w1, w2⟩ := hwi
  rw [w_id (by omega) (by omega), get_pos' (by omega), cat_lt hj]

/-- May a word be dropped? -/
def mayDrop (h : List Cell) (w : Int) : Prop := VH h ∧ wordW h w = true ∧ (1000 ≤ w → (inA h (w - 1000).toNat : Int) < ct h (w - 1000).toNat)

theorem mayDrop.pre {h : List Cell} {w : Int} (H : Hp h) (M : mayDrop h w) : Pre h [w] := by
  obtain ⟨V, h1, h2⟩ := M
  refine Pre.of H V (fun v hv => by rw [List.mem_singleton] at hv; subst hv; exact h1) fun j hj => ?_
  rw [pc_one]
  have h3 := V.cnt hj
  split
  · rename_i e
    have h4 := h2 (by omega)
    rw [e, show (1000 + (j : Int) - 1000).toNat = j by omega] at h4
    omega
  · omega

theorem DropWord_both {h : List Cell} {w : Int} (H : Hp h) (hw : I64 w) {N : Nat} (hN : 2000000 ≤ N) : ∃ g b, spec_DropWord N h w = some (g, b) ∧ impl_DropWord N h w = some (g, b) ∧ (b = true ↔ mayDrop h w) ∧ (b = true → Dr h [w] g) ∧ (b = false → g = []) := by
  have hl := H.len
  obtain ⟨b, r, h1, _, h2, _, h3, h4⟩ := valid_both H hN
  unfold spec_DropWord impl_DropWord
  rw [h1, h2]
  simp only [Option.bind_some]
  cases b with
  | false => exact ⟨[], false, by simp, by simp, by simp [mayDrop]; intro hv; exact absurd (h3.2 hv) (by simp), by simp, by simp⟩
  | true =>
    obtain rfl := h4 rfl
    have V := h3.1 rfl
    rw [isWord_eq hl hw, wordValid_eq hl hw]
    simp only [Option.bind_some, Bool.not_true, Bool.false_eq_true, if_false]
    cases hword : wordW h w with
    | false => exact ⟨[], false, by simp, by simp, by simp [mayDrop, hword], by simp, by simp⟩
    | true =>
      simp only [Bool.not_true, Bool.false_eq_true, if_false]
      rw [copyHeap_eq H hN, cloneHeap_eq H hN, liveAt_eq hl hw, refsOf_eq H hN]
      simp only [Option.bind_some, spec_isPointer]
      by_cases hp : 1000 ≤ w
      · have hlv : 0 < ct h (w - 1000).toNat := by have := hword; rw [wordW_ptr hp] at this; simpa using this
        have hj : (w - 1000).toNat < h.length := ct_lt (by omega)
        have hlw : liveW h w = true := by rw [ptr_eq hp, liveW_ct]; simpa using hlv
        rw [if_pos (by simpa using hp), hlw, cat_get hp hw hj, refs_get hp hw hj, tot_inA, if_pos hlv]
        simp only [Option.bind_some, if_true]
        by_cases he : (cat h (w - 1000).toNat).count = (inA h (w - 1000).toNat : Int)
        · refine ⟨[], false, by simp [he], by simp [he], ?_, by simp, by simp⟩
          simp only [Bool.false_eq_true, false_iff]
          intro M
          have := M.2.2 hp
          unfold ct at this; omega
        · have M : mayDrop h w := ⟨V, hword, fun _ => by have := V.cnt hlv; unfold ct at this ⊢; omega⟩
          have P := M.pre H
          obtain ⟨g, e1, D1⟩ := spec_dropWords_eq P (by simp) hN
          obtain ⟨g', e2, D2⟩ := impl_drop_eq P hN
          obtain rfl := D1.same V D2
          refine ⟨g, true, by simp [he, e1], by simp [he, e2], by simp [M], fun _ => D1, by simp⟩
      · have hlw : liveW h w = false := liveW_low hp
        have M : mayDrop h w := ⟨V, hword, fun h1 => absurd h1 hp⟩
        have P := M.pre H
        obtain ⟨g, e1, D1⟩ := spec_dropWords_eq P (by simp) hN
        have e : g = h := D1.same V (Dr.ints V fun v hv => by rw [List.mem_singleton] at hv; subst hv; exact hp)
        subst e
        refine ⟨g, true, ?_, ?_, by simp [M], fun _ => D1, by simp⟩
        · rw [if_neg (by simpa using hp)]; simp [e1]
        · rw [hlw]; simp
end RC
