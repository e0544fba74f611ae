import Derived.Test.YtcpedchmkhlpnaaHMA
namespace RC
open Go

/-! ### Words -/

def liveW (h : List Cell) (w : Int) : Bool := decide (1000 ≤ w) && (match h[(w - 1000).toNat]? with | some c => decide (0 < c.count) | none => false)
def intW (w : Int) : Bool := decide (-999 ≤ w) && decide (w ≤ 999)
def wordW (h : List Cell) (w : Int) : Bool := liveW h w || intW w

theorem liveW_hit {h : List Cell} {w : Int} {c : Cell} (h1 : 1000 ≤ w) (hc : h[(w - 1000).toNat]? = some c) : liveW h w = decide (0 < c.count) := by simp [liveW, h1, hc]
theorem liveW_out {h : List Cell} {w : Int} (h2 : ¬ w - 1000 < h.length) : liveW h w = false := by
  unfold liveW
  rw [List.getElem?_eq_none (by omega)]; simp
theorem liveW_low {h : List Cell} {w : Int} (h1 : ¬ 1000 ≤ w) : liveW h w = false := by simp [liveW, h1]
theorem liveW_spec {h : List Cell} {w : Int} (hl : liveW h w = true) : ∃ (i : Nat) (c : Cell), w = 1000 + (i : Int) ∧ (w - 1000).toNat = i ∧ i < h.length ∧ h[i]? = some c ∧ 0 < c.count := by
  unfold liveW at hl
  simp only [Bool.and_eq_true, decide_eq_true_eq] at hl
  obtain ⟨h1, h2⟩ := hl
  split at h2
  · rename_i c hc
    exact ⟨(w - 1000).toNat, c, by omega, rfl, (List.getElem?_eq_some_iff.1 hc).1, hc, by simpa using h2⟩
  · cases h2

theorem inRange_eq (a b c : Int) : spec_inRange a b c = some (decide (b ≤ a) && decide (a ≤ c)) := by
  unfold spec_inRange
  by_cases h : b ≤ a <;> simp [h]

theorem isLive_eq {h : List Cell} {w : Int} (hl : h.length ≤ 1048576) (hw : I64 w) : spec_isLive h w = some (liveW h w) := by
  obtain ⟨w1, w2⟩ := hw
  unfold spec_isLive spec_isPointer
  rw [inRange_eq, len_def, w_id (n := (h.length : Int) - 1) (by omega) (by omega)]
  by_cases h1 : -9223372036854775808 ≤ w - 1000
  · rw [w_id h1 (by omega)]
    by_cases h2 : 1000 ≤ w
    · by_cases h3 : w - 1000 < h.length
      · obtain ⟨c, hc, hc2⟩ := get_pos (l := h) (j := w - 1000) (by omega) h3
        have e : (decide (0 ≤ w - 1000) && decide (w - 1000 ≤ (h.length : Int) - 1)) = true := by
          simp; omega
        simp only [Option.bind_some, e, h2, hc, decide_true, if_true, liveW_hit h2 hc2]
      · have e : (decide (0 ≤ w - 1000) && decide (w - 1000 ≤ (h.length : Int) - 1)) = false := by
          simp; omega
        simp only [Option.bind_some, e, liveW_out h3]; simp
    · have e : (decide (0 ≤ w - 1000) && decide (w - 1000 ≤ (h.length : Int) - 1)) = false := by
        simp; omega
      simp only [Option.bind_some, e, liveW_low h2]; simp
  · have e0 : Sh.w (w - 1000) = w - 1000 + 18446744073709551616 := Abs.wrap_low (by omega) (by omega)
    have e : (decide (0 ≤ Sh.w (w - 1000)) && decide (Sh.w (w - 1000) ≤ (h.length : Int) - 1)) = false := by
      rw [e0]; simp; omega
    simp only [Option.bind_some, e, liveW_low (h := h) (w := w) (by omega)]; simp

theorem isWord_eq {h : List Cell} {w : Int} (hl : h.length ≤ 1048576) (hw : I64 w) : spec_isWord h w = some (wordW h w) := by
  unfold spec_isWord
  rw [inRange_eq, isLive_eq hl hw]
  unfold wordW intW
  by_cases h1 : -999 ≤ w <;> by_cases h2 : w ≤ 999 <;> simp [h1, h2]

theorem liveAt_eq {h : List Cell} {w : Int} (hl : h.length ≤ 1048576) (hw : I64 w) : impl_liveAt h w = some (Sh.w (w - 1000), liveW h w) := by
  obtain ⟨w1, w2⟩ := hw
  unfold impl_liveAt
  by_cases h2 : 1000 ≤ w
  · rw [w_id (n := w - 1000) (by omega) (by omega), len_def]
    by_cases h3 : w - 1000 < h.length
    · obtain ⟨c, hc, hc2⟩ := get_pos (l := h) (j := w - 1000) (by omega) h3
      simp [h2, h3, hc, liveW_hit h2 hc2]
    · simp [h2, h3, liveW_out h3]
  · simp [h2, liveW_low h2]
theorem w_live {h : List Cell} {w : Int} (hl : h.length ≤ 1048576) (hw : liveW h w = true) : Sh.w (w - 1000) = w - 1000 := by
  obtain ⟨i, c, h1, h2, h3, _⟩ := liveW_spec hw
  exact w_id (by omega) (by omega)

theorem isInt_eq (w : Int) : impl_isInt w = some (intW w) := by
  unfold impl_isInt intW
  by_cases h : -999 ≤ w <;> simp [h]
theorem wordValid_eq {h : List Cell} {w : Int} (hl : h.length ≤ 1048576) (hw : I64 w) : impl_wordValid h w = some (wordW h w) := by
  unfold impl_wordValid wordW
  rw [liveAt_eq hl hw, isInt_eq]
  cases h1 : liveW h w <;> simp [h1]

/-! ### Cells -/

def zeroB (l : List Int) : Bool := l.all fun w => decide (w = 0)

/-- A cell's validity, but for its count's greatest. -/
def cellI (h : List Cell) (c : Cell) : Bool :=
  !(decide (c.count < -1) || decide (c.tag < 0) || decide (99 < c.tag) || decide (3 < (c.fields.length : Int))) &&
  !((decide (c.count < 1) && !decide (c.tag = 0)) || (decide (c.count = 0) && decide (0 < (c.fields.length : Int)))) &&
  c.fields.all fun w => wordW h w && !(decide (c.count < 0) && !decide (w = 0))
def cellS (h : List Cell) (c : Cell) : Bool :=
  !(decide (3 < (c.fields.length : Int)) || !(decide (-1 ≤ c.count) && decide (c.count ≤ 999999))) &&
  if c.count < 1 then decide (c.tag = 0) && zeroB c.fields && (decide (c.count < 0) || decide ((c.fields.length : Int) = 0)) else (c.fields.all fun w => wordW h w) && (decide (0 ≤ c.tag) && decide (c.tag ≤ 99))

theorem all_drop {α : Type} {p : α → Bool} {l : List α} {i : Nat} {x : α} (h : l[i]? = some x) : (l.drop i).all p = (p x && (l.drop (i + 1)).all p) := by rw [drop_cons h]; rfl

theorem allZero_L1_eq {l : List Int} (hl : l.length ≤ 1048576) {N i : Nat} (hi : i ≤ l.length) (hN : l.length - i < N) : spec_allZero_L1 l N i = some (if zeroB (l.drop i) then Sum.inr () else Sum.inl false) := by
  refine loop_ind l.length (fun N i => spec_allZero_L1 l N i = some (if zeroB (l.drop i) then Sum.inr () else Sum.inl false)) ?_ ?_ hi hN
  · intro n
    rw [spec_allZero_L1, if_neg (by simp [len_def])]; simp [zeroB]
  · intro n i hi ih
    obtain ⟨x, hx, _⟩ := at_lt hi
    rw [spec_allZero_L1, if_pos (by simp [len_def]; omega), get_lt hx]
    simp only [Option.bind_some]
    rw [w_id (by omega) (by omega), show ((i : Int) + 1) = ((i + 1 : Nat) : Int) from rfl, ih]
    unfold zeroB
    rw [all_drop hx]
    by_cases h : x = 0 <;> simp [h]
theorem allZero_eq {l : List Int} (hl : l.length ≤ 1048576) {N : Nat} (hN : 2000000 ≤ N) : spec_allZero N l = some (zeroB l) := by
  unfold spec_allZero
  have := allZero_L1_eq hl (Nat.zero_le _) (by omega : l.length - 0 < N)
  rw [show ((0 : Nat) : Int) = 0 from rfl, List.drop_zero] at this
  rw [this]
  cases zeroB l <;> simp

theorem validCell_L1_eq {h : List Cell} {c : Cell} (hl : h.length ≤ 1048576) (hf : c.fields.length ≤ 1048576) (hF : ∀ x ∈ c.fields, I64 x) {N i : Nat} (hi : i ≤ c.fields.length) (hN : c.fields.length - i < N) :
    spec_validCell_L1 h c N i = some (if (c.fields.drop i).all (fun w => wordW h w) then Sum.inr () else Sum.inl false) := by
  refine loop_ind c.fields.length (fun N i => spec_validCell_L1 h c N i = some (if (c.fields.drop i).all (fun w => wordW h w) then Sum.inr () else Sum.inl false)) ?_ ?_ hi hN
  · intro n
    rw [spec_validCell_L1, if_neg (by simp [len_def])]; simp
  · intro n i hi ih
    obtain ⟨x, hx, hxm⟩ := at_lt hi
    rw [spec_validCell_L1, if_pos (by simp [len_def]; omega), get_lt hx]
    simp only [Option.bind_some]
    rw [isWord_eq hl (hF x hxm)]
    simp only [Option.bind_some]
    rw [w_id (by omega) (by omega), show ((i : Int) + 1) = ((i + 1 : Nat) : Int) from rfl, ih, all_drop hx]
    cases wordW h x <;> simp

theorem validCell_eq {h : List Cell} {c : Cell} (hl : h.length ≤ 1048576) (hf : c.fields.length ≤ 1048576) (hF : ∀ x ∈ c.fields, I64 x) {N : Nat} (hN : 2000000 ≤ N) : spec_validCell N h c = some (cellS h c) := by
  unfold spec_validCell cellS
  simp only [inRange_eq, len_def, allZero_eq hf hN]
  by_cases h1 : 3 < (c.fields.length : Int)
  · simp [h1]
  · by_cases h2 : -1 ≤ c.count
    · by_cases h3 : c.count ≤ 999999
      · by_cases h4 : c.count < 1
        · by_cases h5 : c.tag = 0
          · cases h6 : zeroB c.fields
            · simp [h1, h2, h3, h4, h5]
            · by_cases h7 : c.count < 0 <;> simp [h1, h2, h3, h4, h5, h7]
          · simp [h1, h2, h3, h4, h5]
        · have := validCell_L1_eq hl hf hF (Nat.zero_le _) (by omega : c.fields.length - 0 < N)
          rw [show ((0 : Nat) : Int) = 0 from rfl, List.drop_zero] at this
          simp only [h1, h2, h3, h4, this]
          cases c.fields.all (fun w => wordW h w) <;> simp
      · simp [h1, h2, h3]
    · simp [h1, h2]

def cellW (h : List Cell) (c : Cell) (w : Int) : Bool := wordW h w && !(decide (c.count < 0) && !decide (w = 0))
theorem cellValid_L1_eq {h : List Cell} {c : Cell} (hl : h.length ≤ 1048576) (hf : c.fields.length ≤ 1048576) (hF : ∀ x ∈ c.fields, I64 x) {N i : Nat} (hi : i ≤ c.fields.length) (hN : c.fields.length - i < N) :
    impl_cellValid_L1 h c N i = some (if (c.fields.drop i).all (cellW h c) then Sum.inr () else Sum.inl false) := by
  refine loop_ind c.fields.length (fun N i => impl_cellValid_L1 h c N i = some (if (c.fields.drop i).all (cellW h c) then Sum.inr () else Sum.inl false)) ?_ ?_ hi hN
  · intro n
    rw [impl_cellValid_L1, if_neg (by simp [len_def])]; simp
  · intro n i hi ih
    obtain ⟨x, hx, hxm⟩ := at_lt hi
    rw [impl_cellValid_L1, if_pos (by simp [len_def]; omega), get_lt hx]
    simp only [Option.bind_some]
    rw [wordValid_eq hl (hF x hxm)]
    simp only [Option.bind_some]
    rw [w_id (by omega) (by omega), show ((i : Int) + 1) = ((i + 1 : Nat) : Int) from rfl, ih, all_drop hx]
    unfold cellW
    cases wordW h x
    · simp
    · by_cases h1 : c.count < 0 <;> by_cases h2 : x = 0 <;> simp [h1, h2]
theorem cellValid_eq {h : List Cell} {c : Cell} (hl : h.length ≤ 1048576) (hf : c.fields.length ≤ 1048576) (hF : ∀ x ∈ c.fields, I64 x) {N : Nat} (hN : 2000000 ≤ N) : impl_cellValid N h c = some (cellI h c) := by
  have hc : cellI h c = (!(decide (c.count < -1) || decide (c.tag < 0) || decide (99 < c.tag) || decide (3 < (c.fields.length : Int))) &&
      !((decide (c.count < 1) && !decide (c.tag = 0)) || (decide (c.count = 0) && decide (0 < (c.fields.length : Int)))) && c.fields.all (cellW h c)) := rfl
  rw [hc]
  unfold impl_cellValid
  have := cellValid_L1_eq hl hf hF (Nat.zero_le _) (by omega : c.fields.length - 0 < N)
  rw [show ((0 : Nat) : Int) = 0 from rfl, List.drop_zero] at this
  simp only [len_def, this]
  have key : ∀ b : Bool, Sh.cont (some (if b = true then (Sum.inr () : Bool ⊕ Unit) else Sum.inl false)) id (fun _ => some true) = some b := fun b => by cases b <;> rfl
  by_cases h1 : c.count < -1
  · simp [h1]
  · by_cases h2 : c.tag < 0
    · simp [h1, h2]
    · by_cases h3 : 99 < c.tag
      · simp [h1, h2, h3]
      · by_cases h4 : 3 < (c.fields.length : Int)
        · simp [h1, h2, h3, h4]
        · by_cases h5 : c.count < 1
          · by_cases h6 : c.tag = 0
            · by_cases h7 : c.count = 0
              · by_cases h8 : 0 < (c.fields.length : Int)
                · have h8' : 0 < c.fields.length := by omega
                  simp [h2, h3, h4, h5, h6, h7, h8']
                · simp only [h1, h2, h3, h4, h5, h6, h7, h8, key]; simp
              · simp only [h1, h2, h3, h4, h5, h6, h7, key]; simp
            · simp [h1, h2, h3, h4, h5, h6]
          · have h7 : ¬ c.count = 0 := by omega
            simp only [h1, h2, h3, h4, h5, h7, key]; simp

/-- The two agree where the count is not too great. -/
theorem cellS_eq (h : List Cell) (c : Cell) : cellS h c = (cellI h c && decide (c.count ≤ 999999)) := by
  unfold cellS cellI
  by_cases h4 : 3 < (c.fields.length : Int)
  · simp [h4]
  · by_cases hm : c.count ≤ 999999
    · by_cases hlo : -1 ≤ c.count
      · have hlo' : ¬ c.count < -1 := by omega
        by_cases h5 : c.count < 1
        · by_cases h6 : c.tag = 0
          · by_cases h7 : c.count = 0
            · by_cases h8 : 0 < (c.fields.length : Int)
              · have h9 : ¬ (c.fields.length : Int) = 0 := by omega
                have h8' : 0 < c.fields.length := by omega
                have h9' : ¬ c.fields = [] := fun e => by rw [e] at h8'; simp at h8'
                simp [h4, h6, h7, h8', h9']
              · have h9 : c.fields = [] := List.eq_nil_of_length_eq_zero (by omega)
                simp [hm, h7, h6, h9, zeroB]
            · have h8 : c.count < 0 := by omega
              simp only [h4, hm, hlo, hlo', h5, h6, h7, h8, zeroB]
              simp only [decide_true, decide_false, Bool.not_false, Bool.and_true, Bool.true_and, Bool.or_false, Bool.or_true, Bool.and_self, Bool.not_true, if_true, Bool.false_and, Bool.or_self, Bool.true_or]
              have e : ∀ l : List Int, (l.all fun w => decide (w = 0)) = l.all fun w => wordW h w && !(!decide (w = 0)) := fun l => by
                congr 1
                funext w
                by_cases h0 : w = 0
                · subst h0
                  have : wordW h 0 = true := by simp [wordW, intW]
                  simp [this]
                · simp [h0]
              rw [e]
              simp
          · have h6' : decide (c.tag = 0) = false := by simpa using h6
            simp [h4, hm, hlo, hlo', h5, h6']
        · have h7 : ¬ c.count = 0 := by omega
          have h8 : ¬ c.count < 0 := by omega
          by_cases h9 : c.tag < 0
          · have : ¬ 0 ≤ c.tag := by omega
            simp [h4, hm, hlo, hlo', h5, h7, h8, h9, this]
          · have h9' : 0 ≤ c.tag := by omega
            by_cases h10 : 99 < c.tag
            · have : ¬ c.tag ≤ 99 := by omega
              simp [h4, hm, hlo, hlo', h5, h7, h8, h9, h10, this]
            · have : c.tag ≤ 99 := by omega
              simp [h4, hm, hlo, hlo', h5, h7, h8, h9, h9', h10, this]
      · have : c.count < -1 := by omega
        simp [h4, hlo, this]
    · simp [hm]
end RC
