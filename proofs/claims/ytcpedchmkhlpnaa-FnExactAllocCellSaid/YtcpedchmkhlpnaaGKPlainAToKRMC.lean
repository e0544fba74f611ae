/- Plain tools for the printed functions. -/
import Derived.Test.YtcpedchmkhlpnaaGEncToEncB
import Derived.Test.YtcpedchmkhlpnaaHADefs
import Derived.Test.YtcpedchmkhlpnaaRADefs
import Derived.Test.YtcpedchmkhlpnaaHBDefs
import Derived.Test.YtcpedchmkhlpnaaRBDefs

namespace RC
open Go

theorem w_id {n : Int} (h1 : -9223372036854775808 ≤ n) (h2 : n ≤ 9223372036854775807) : Sh.w n = n := Abs.wrap_i64 h1 h2
theorem len_def {α : Type} (l : List α) : Sh.len l = (l.length : Int) := rfl
theorem get_nat {α : Type} (l : List α) (i : Nat) : Sh.get l (i : Int) = l[i]? := by
  unfold Sh.get; rw [if_pos (Int.natCast_nonneg i)]; simp
theorem get_lt {α : Type} {l : List α} {i : Nat} {x : α} (h : l[i]? = some x) : Sh.get l (i : Int) = some x := by rw [get_nat, h]
theorem get_pos {α : Type} {l : List α} {j : Int} (h0 : 0 ≤ j) (h1 : j < l.length) : ∃ x, Sh.get l j = some x ∧ l[j.toNat]? = some x := by
  have h : l[j.toNat]? = some (l[j.toNat]'(by omega)) := List.getElem?_eq_getElem (by omega)
  exact ⟨_, by unfold Sh.get; rw [if_pos h0, h], h⟩
theorem get_pos' {α : Type} {l : List α} {j : Int} (h0 : 0 ≤ j) : Sh.get l j = l[j.toNat]? := by unfold Sh.get; rw [if_pos h0]
theorem put_nat {α : Type} (l : List α) (i : Nat) (x : α) : Sh.put l (i : Int) x = l.set i x := by simp [Sh.put]
theorem mk_ok {α : Type} (x : α) (n b : Nat) (h : n * b ≤ 281474976710656) (h2 : n ≤ 9223372036854775807) : Sh.mk x (n : Int) b = some (List.replicate n x) := by
  unfold Sh.mk
  rw [if_pos ⟨by omega, by rw [← Int.natCast_mul]; omega, by omega⟩]; simp
theorem app_ok {α : Type} (l m : List α) (b : Nat) (h : (l.length + m.length) * b ≤ 140737488355328) (h2 : l.length + m.length ≤ 9223372036854775807) : Sh.app l m b = some (l ++ m) := by
  unfold Sh.app; rw [if_pos ⟨h, h2⟩]
theorem hi_ok {α : Type} {l : List α} {j : Nat} (h : j ≤ l.length) : Sh.hi l (j : Int) = some (l.take j) := by
  unfold Sh.hi; rw [if_pos ⟨by omega, by omega⟩]; simp

/-- A loop over the places of a list: backwards, over the fuel. -/
theorem loop_ind (len : Nat) (P : Nat → Nat → Prop) (h0 : ∀ n, P (n + 1) len) (hs : ∀ n i, i < len → P n (i + 1) → P (n + 1) i) : ∀ {N i : Nat}, i ≤ len → len - i < N → P N i := by
  intro N i hi hN
  obtain ⟨k, hk⟩ : ∃ k, len - i = k := ⟨_, rfl⟩
  induction k generalizing N i with
  | zero =>
    obtain ⟨n, rfl⟩ : ∃ n, N = n + 1 := ⟨N - 1, by omega⟩
    have : i = len := by omega
    subst this; exact h0 n
  | succ k ih =>
    obtain ⟨n, rfl⟩ : ∃ n, N = n + 1 := ⟨N - 1, by omega⟩
    exact hs n i (by omega) (ih (by omega) (by omega) (by omega))

theorem at_lt {α : Type} {l : List α} {i : Nat} (h : i < l.length) : ∃ x, l[i]? = some x ∧ x ∈ l := ⟨l[i], List.getElem?_eq_getElem h, List.getElem_mem h⟩
theorem take_snoc {α : Type} {l : List α} {j : Nat} {x : α} (h : l[j]? = some x) : l.take (j + 1) = l.take j ++ [x] := by rw [List.take_add_one, h]; rfl
theorem drop_cons {α : Type} {l : List α} {j : Nat} {x : α} (h : l[j]? = some x) : l.drop j = x :: l.drop (j + 1) := by
  obtain ⟨hj, rfl⟩ := List.getElem?_eq_some_iff.1 h
  exact List.drop_eq_getElem_cons hj

/-! ### Heaps -/

def fsum (h : List Cell) : Nat := (h.map fun c => c.fields.length).sum
def hsize (h : List Cell) : Nat := h.length + fsum h

abbrev HeapIn : List Cell → Prop := ListIn CellIn

/-- A heap that is not too great. -/
structure Hp (h : List Cell) : Prop where
  size : hsize h ≤ 2097160
  cells : ∀ c ∈ h, CellIn c

theorem fsum_mem {h : List Cell} {c : Cell} (hc : c ∈ h) : c.fields.length ≤ fsum h := by
  induction h with
  | nil => cases hc
  | cons d h ih =>
    simp only [fsum, List.map_cons, List.sum_cons] at ih ⊢
    rcases List.mem_cons.1 hc with rfl | hc
    · omega
    · have := ih hc; omega
theorem Hp.len {h : List Cell} (H : Hp h) : h.length ≤ 2097160 := by have := H.size; unfold hsize at this; omega
theorem Hp.flen {h : List Cell} (H : Hp h) {c : Cell} (hc : c ∈ h) : c.fields.length ≤ 2097160 := by have := H.size; have := fsum_mem hc; unfold hsize at *; omega
theorem fsum_append (a b : List Cell) : fsum (a ++ b) = fsum a + fsum b := by simp [fsum]
theorem fsum_take_le (h : List Cell) (i : Nat) : fsum (h.take i) ≤ fsum h := by
  have := fsum_append (h.take i) (h.drop i)
  rw [List.take_append_drop] at this; omega
theorem fsum_drop_le (h : List Cell) (i : Nat) : fsum (h.drop i) ≤ fsum h := by
  have := fsum_append (h.take i) (h.drop i)
  rw [List.take_append_drop] at this; omega

end RC

namespace RC
open Go

/-! ### The size of what came in; copies; comparisons -/

theorem szIntS_eq {l : List Int} {left : Int} (h0 : 0 ≤ left) (h1 : left ≤ 2097160) (hl : l.length ≤ 9223372036854775807) : laws_szIntS l left = some (if left - l.length < 0 then -1 else left - l.length) := by
  unfold laws_szIntS
  rw [len_def, w_id (by omega) (by omega)]
  by_cases h : left - l.length < 0 <;> simp [h]

theorem szCell_eq {c : Cell} {left : Int} (h0 : 0 ≤ left) (h1 : left ≤ 2097160) (hc : CellIn c) : laws_szCell c left = some (if left - c.fields.length < 0 then -1 else left - c.fields.length) := by
  unfold laws_szCell
  rw [szIntS_eq h0 h1 hc.len]
  simp only [Option.bind_some]
  by_cases h : left - c.fields.length < 0 <;> simp [h]

theorem szCellS_L1_eq {h : List Cell} (hc : ∀ c ∈ h, CellIn c) (hl : h.length ≤ 2097160) {N i : Nat} (hi : i ≤ h.length) (hN : h.length - i < N) : ∀ left : Int, 0 ≤ left → left ≤ 2097160 →
    laws_szCellS_L1 h N left i = some (if left - fsum (h.drop i) < 0 then Sum.inl (-1) else Sum.inr (left - fsum (h.drop i))) := by
  refine loop_ind h.length (fun N i => ∀ left : Int, 0 ≤ left → left ≤ 2097160 → laws_szCellS_L1 h N left i = some (if left - fsum (h.drop i) < 0 then Sum.inl (-1) else Sum.inr (left - fsum (h.drop i)))) ?_ ?_ hi hN
  · intro n left h0 h1
    rw [laws_szCellS_L1]
    simp [len_def, fsum]
    omega
  · intro n i hi ih left h0 h1
    obtain ⟨c, hci, hcm⟩ := at_lt hi
    have hd : fsum (h.drop i) = c.fields.length + fsum (h.drop (i + 1)) := by rw [drop_cons hci]; simp [fsum]
    rw [laws_szCellS_L1]
    rw [if_pos (by simp [len_def]; omega), get_lt hci]
    simp only [Option.bind_some]
    rw [szCell_eq h0 h1 (hc c hcm)]
    simp only [Option.bind_some]
    by_cases h2 : left - c.fields.length < 0
    · simp only [h2, if_true]
      rw [if_pos (by simp), if_pos (by omega)]
    · simp only [h2, if_false]
      rw [if_neg (by simp [h2]), w_id (by omega) (by omega)]
      have := ih (left - c.fields.length) (by omega) (by omega)
      rw [show ((i : Int) + 1) = ((i + 1 : Nat) : Int) by omega, this, hd]
      have e : left - (c.fields.length : Int) - fsum (h.drop (i + 1)) = left - ((c.fields.length + fsum (h.drop (i + 1)) : Nat) : Int) := by omega
      rw [e]

theorem szCellS_eq {h : List Cell} (H : HeapIn h) {N : Nat} (hN : 9000000 ≤ N) : laws_szCellS N h 2097160 = some (if hsize h ≤ 2097160 then 2097160 - (hsize h : Int) else -1) := by
  unfold laws_szCellS
  have hl := H.2
  rw [len_def, w_id (by omega) (by omega)]
  by_cases h1 : (2097160 : Int) - h.length < 0
  · rw [if_pos (by simpa using h1), if_neg (by unfold hsize; omega)]
  · rw [if_neg (by simpa using h1)]
    have := szCellS_L1_eq H.1 (by omega) (Nat.zero_le _) (by omega : h.length - 0 < N) (2097160 - h.length) (by omega) (by omega)
    rw [show ((0 : Nat) : Int) = 0 from rfl] at this
    rw [this, List.drop_zero]
    by_cases h2 : (2097160 : Int) - h.length - fsum h < 0
    · rw [if_pos h2, if_neg (by unfold hsize; omega)]; rfl
    · rw [if_neg h2, if_pos (by unfold hsize; omega)]
      simp only [Sh.cont_inr]
      congr 1
      unfold hsize; omega

theorem toIntS_L1_eq {l : List Int} (hl : l.length ≤ 2097160) {N i : Nat} (hi : i ≤ l.length) (hN : l.length - i < N) : ∀ m : List Int, m.length = l.length → m.take i = l.take i → laws_toIntS_L1 l N i m = some l := by
  refine loop_ind l.length (fun N i => ∀ m : List Int, m.length = l.length → m.take i = l.take i → laws_toIntS_L1 l N i m = some l) ?_ ?_ hi hN
  · intro n m hm ht
    rw [laws_toIntS_L1, if_neg (by simp [len_def])]
    rw [List.take_of_length_le (by omega), List.take_length] at ht
    rw [ht]
  · intro n i hi ih m hm ht
    obtain ⟨x, hx, _⟩ := at_lt hi
    obtain ⟨y, hy, _⟩ := at_lt (l := m) (i := i) (by omega)
    rw [laws_toIntS_L1, if_pos (by simp [len_def]; omega), get_lt hx]
    simp only [Option.bind_some]
    rw [get_lt hy]
    simp only [Option.bind_some]
    rw [w_id (by omega) (by omega), put_nat, show ((i : Int) + 1) = ((i + 1 : Nat) : Int) by omega]
    refine ih _ (by simp [hm]) ?_
    rw [take_snoc hx, take_snoc (x := x) (by rw [List.getElem?_set]; simp; omega), List.take_set_of_le (Nat.le_refl _), ht]

theorem toIntS_eq {l : List Int} (hl : l.length ≤ 2097160) {N : Nat} (hN : 9000000 ≤ N) : laws_toIntS N l = some l := by
  unfold laws_toIntS
  rw [len_def, mk_ok 0 l.length 8 (by omega) (by omega)]
  simp only [Option.bind_some]
  have := toIntS_L1_eq hl (Nat.zero_le _) (by omega : l.length - 0 < N) (List.replicate l.length 0) (by simp) (by simp)
  rw [show ((0 : Nat) : Int) = 0 from rfl] at this
  rw [this]; rfl

theorem toCell_eq {c : Cell} (hl : c.fields.length ≤ 2097160) {N : Nat} (hN : 9000000 ≤ N) : laws_toCell N c = some c := by
  unfold laws_toCell
  rw [toIntS_eq hl hN]; rfl

theorem toCellS_L1_eq {h : List Cell} (hl : h.length ≤ 2097160) (hf : ∀ c ∈ h, c.fields.length ≤ 2097160) {M : Nat} (hM : 9000000 ≤ M) {N i : Nat} (hi : i ≤ h.length) (hN : h.length - i < N) : ∀ m : List Cell, m.length = h.length → m.take i = h.take i → laws_toCellS_L1 M h N i m = some h := by
  refine loop_ind h.length (fun N i => ∀ m : List Cell, m.length = h.length → m.take i = h.take i → laws_toCellS_L1 M h N i m = some h) ?_ ?_ hi hN
  · intro n m hm ht
    rw [laws_toCellS_L1, if_neg (by simp [len_def])]
    rw [List.take_of_length_le (by omega), List.take_length] at ht
    rw [ht]
  · intro n i hi ih m hm ht
    obtain ⟨x, hx, hxm⟩ := at_lt hi
    obtain ⟨y, hy, _⟩ := at_lt (l := m) (i := i) (by omega)
    rw [laws_toCellS_L1, if_pos (by simp [len_def]; omega), get_lt hx]
    simp only [Option.bind_some]
    rw [toCell_eq (hf x hxm) hM]
    simp only [Option.bind_some]
    rw [get_lt hy]
    simp only [Option.bind_some]
    rw [w_id (by omega) (by omega), put_nat, show ((i : Int) + 1) = ((i + 1 : Nat) : Int) by omega]
    refine ih _ (by simp [hm]) ?_
    rw [take_snoc hx, take_snoc (x := x) (by rw [List.getElem?_set]; simp; omega), List.take_set_of_le (Nat.le_refl _), ht]

theorem toCellS_eq {h : List Cell} (H : Hp h) {N : Nat} (hN : 9000000 ≤ N) : laws_toCellS N h = some h := by
  have hl := H.len
  unfold laws_toCellS
  rw [len_def, mk_ok _ h.length 40 (by omega) (by omega)]
  simp only [Option.bind_some]
  have := toCellS_L1_eq hl (fun c hc => H.flen hc) hN (Nat.zero_le _) (by omega : h.length - 0 < N) (List.replicate h.length ⟨0, 0, []⟩) (by simp) (by simp)
  rw [show ((0 : Nat) : Int) = 0 from rfl] at this
  rw [this]; rfl

theorem eqIntS_L1_eq {l : List Int} (hl : l.length ≤ 2097160) {N i : Nat} (hi : i ≤ l.length) (hN : l.length - i < N) : laws_eqIntS_L1 l l N i = some (Sum.inr ()) := by
  refine loop_ind l.length (fun N i => laws_eqIntS_L1 l l N i = some (Sum.inr ())) ?_ ?_ hi hN
  · intro n
    rw [laws_eqIntS_L1, if_neg (by simp [len_def])]
  · intro n i hi ih
    obtain ⟨x, hx, _⟩ := at_lt hi
    rw [laws_eqIntS_L1, if_pos (by simp [len_def]; omega), get_lt hx]
    simp only [Option.bind_some]
    rw [w_id (by omega) (by omega), show ((i : Int) + 1) = ((i + 1 : Nat) : Int) by omega]
    simpa using ih
theorem eqIntS_eq {l : List Int} (hl : l.length ≤ 2097160) {N : Nat} (hN : 9000000 ≤ N) : laws_eqIntS N l l = some true := by
  unfold laws_eqIntS
  have := eqIntS_L1_eq hl (Nat.zero_le _) (by omega : l.length - 0 < N)
  rw [show ((0 : Nat) : Int) = 0 from rfl] at this
  simp [this]
theorem eqCell_eq {c : Cell} (hl : c.fields.length ≤ 2097160) {N : Nat} (hN : 9000000 ≤ N) : laws_eqCell N c c = some true := by
  unfold laws_eqCell
  simp [eqIntS_eq hl hN]
theorem eqCellS_L1_eq {h : List Cell} (hl : h.length ≤ 2097160) (hf : ∀ c ∈ h, c.fields.length ≤ 2097160) {M : Nat} (hM : 9000000 ≤ M) {N i : Nat} (hi : i ≤ h.length) (hN : h.length - i < N) : laws_eqCellS_L1 M h h N i = some (Sum.inr ()) := by
  refine loop_ind h.length (fun N i => laws_eqCellS_L1 M h h N i = some (Sum.inr ())) ?_ ?_ hi hN
  · intro n
    rw [laws_eqCellS_L1, if_neg (by simp [len_def])]
  · intro n i hi ih
    obtain ⟨x, hx, hxm⟩ := at_lt hi
    rw [laws_eqCellS_L1, if_pos (by simp [len_def]; omega), get_lt hx]
    simp only [Option.bind_some]
    rw [eqCell_eq (hf x hxm) hM, w_id (by omega) (by omega), show ((i : Int) + 1) = ((i + 1 : Nat) : Int) by omega]
    simpa using ih
theorem eqCellS_eq {h : List Cell} (H : Hp h) {N : Nat} (hN : 9000000 ≤ N) : laws_eqCellS N h h = some true := by
  have hl := H.len
  unfold laws_eqCellS
  have := eqCellS_L1_eq hl (fun c hc => H.flen hc) hN (Nat.zero_le _) (by omega : h.length - 0 < N)
  rw [show ((0 : Nat) : Int) = 0 from rfl] at this
  simp [this]
end RC

namespace RC
open Go

/-! ### Words -/

def liveW (h : List Cell) (w : Int) : Bool := decide (1000 ≤ w) && (match h[(w - 1000).toNat]? with | some c => decide (0 < c.count) | none => false)
def intW (w : Int) : Bool := decide (-999 ≤ w) && decide (w ≤ 999)
def wordW (h : List Cell) (w : Int) : Bool := liveW h w || intW w

theorem liveW_hit {h : List Cell} {w : Int} {c : Cell} (h1 : 1000 ≤ w) (hc : h[(w - 1000).toNat]? = some c) : liveW h w = decide (0 < c.count) := by simp [liveW, h1, hc]
theorem liveW_out {h : List Cell} {w : Int} (h2 : ¬ w - 1000 < h.length) : liveW h w = false := by
  unfold liveW
  rw [List.getElem?_eq_none (by omega)]; simp
theorem liveW_low {h : List Cell} {w : Int} (h1 : ¬ 1000 ≤ w) : liveW h w = false := by simp [liveW, h1]
theorem liveW_spec {h : List Cell} {w : Int} (hl : liveW h w = true) : ∃ (i : Nat) (c : Cell), w = 1000 + (i : Int) ∧ (w - 1000).toNat = i ∧ i < h.length ∧ h[i]? = some c ∧ 0 < c.count := by
  unfold liveW at hl
  simp only [Bool.and_eq_true, decide_eq_true_eq] at hl
  obtain ⟨h1, h2⟩ := hl
  split at h2
  · rename_i c hc
    exact ⟨(w - 1000).toNat, c, by omega, rfl, (List.getElem?_eq_some_iff.1 hc).1, hc, by simpa using h2⟩
  · cases h2

theorem inRange_eq (a b c : Int) : spec_inRange a b c = some (decide (b ≤ a) && decide (a ≤ c)) := by
  unfold spec_inRange
  by_cases h : b ≤ a <;> simp [h]

theorem isLive_eq {h : List Cell} {w : Int} (hl : h.length ≤ 2097160) (hw : I64 w) : spec_isLive h w = some (liveW h w) := by
  obtain ⟨w1, w2⟩ := hw
  unfold spec_isLive spec_isPointer
  rw [inRange_eq, len_def, w_id (n := (h.length : Int) - 1) (by omega) (by omega)]
  by_cases h1 : -9223372036854775808 ≤ w - 1000
  · rw [w_id h1 (by omega)]
    by_cases h2 : 1000 ≤ w
    · by_cases h3 : w - 1000 < h.length
      · obtain ⟨c, hc, hc2⟩ := get_pos (l := h) (j := w - 1000) (by omega) h3
        have e : (decide (0 ≤ w - 1000) && decide (w - 1000 ≤ (h.length : Int) - 1)) = true := by
          simp; omega
        simp only [Option.bind_some, e, h2, hc, decide_true, if_true, liveW_hit h2 hc2]
      · have e : (decide (0 ≤ w - 1000) && decide (w - 1000 ≤ (h.length : Int) - 1)) = false := by
          simp; omega
        simp only [Option.bind_some, e, liveW_out h3]; simp
    · have e : (decide (0 ≤ w - 1000) && decide (w - 1000 ≤ (h.length : Int) - 1)) = false := by
        simp; omega
      simp only [Option.bind_some, e, liveW_low h2]; simp
  · have e0 : Sh.w (w - 1000) = w - 1000 + 18446744073709551616 := Abs.wrap_low (by omega) (by omega)
    have e : (decide (0 ≤ Sh.w (w - 1000)) && decide (Sh.w (w - 1000) ≤ (h.length : Int) - 1)) = false := by
      rw [e0]; simp; omega
    simp only [Option.bind_some, e, liveW_low (h := h) (w := w) (by omega)]; simp

theorem isWord_eq {h : List Cell} {w : Int} (hl : h.length ≤ 2097160) (hw : I64 w) : spec_isWord h w = some (wordW h w) := by
  unfold spec_isWord
  rw [inRange_eq, isLive_eq hl hw]
  unfold wordW intW
  by_cases h1 : -999 ≤ w <;> by_cases h2 : w ≤ 999 <;> simp [h1, h2]

theorem liveAt_eq {h : List Cell} {w : Int} (hl : h.length ≤ 2097160) (hw : I64 w) : impl_liveAt h w = some (Sh.w (w - 1000), liveW h w) := by
  obtain ⟨w1, w2⟩ := hw
  unfold impl_liveAt
  by_cases h2 : 1000 ≤ w
  · rw [w_id (n := w - 1000) (by omega) (by omega), len_def]
    by_cases h3 : w - 1000 < h.length
    · obtain ⟨c, hc, hc2⟩ := get_pos (l := h) (j := w - 1000) (by omega) h3
      simp [h2, h3, hc, liveW_hit h2 hc2]
    · simp [h2, h3, liveW_out h3]
  · simp [h2, liveW_low h2]
theorem w_live {h : List Cell} {w : Int} (hl : h.length ≤ 2097160) (hw : liveW h w = true) : Sh.w (w - 1000) = w - 1000 := by
  obtain ⟨i, c, h1, h2, h3, _⟩ := liveW_spec hw
  exact w_id (by omega) (by omega)

theorem isInt_eq (w : Int) : impl_isInt w = some (intW w) := by
  unfold impl_isInt intW
  by_cases h : -999 ≤ w <;> simp [h]
theorem wordValid_eq {h : List Cell} {w : Int} (hl : h.length ≤ 2097160) (hw : I64 w) : impl_wordValid h w = some (wordW h w) := by
  unfold impl_wordValid wordW
  rw [liveAt_eq hl hw, isInt_eq]
  cases h1 : liveW h w <;> simp [h1]

/-! ### Cells -/

def zeroB (l : List Int) : Bool := l.all fun w => decide (w = 0)

/-- A cell's validity, but for its count's greatest. -/
def cellI (h : List Cell) (c : Cell) : Bool :=
  !(decide (c.count < -1) || decide (c.tag < 0) || decide (99 < c.tag) || decide (3 < (c.fields.length : Int))) &&
  !((decide (c.count < 1) && !decide (c.tag = 0)) || (decide (c.count = 0) && decide (0 < (c.fields.length : Int)))) &&
  c.fields.all fun w => wordW h w && !(decide (c.count < 0) && !decide (w = 0))
def cellS (h : List Cell) (c : Cell) : Bool :=
  !(decide (3 < (c.fields.length : Int)) || !(decide (-1 ≤ c.count) && decide (c.count ≤ 999999))) &&
  if c.count < 1 then decide (c.tag = 0) && zeroB c.fields && (decide (c.count < 0) || decide ((c.fields.length : Int) = 0)) else (c.fields.all fun w => wordW h w) && (decide (0 ≤ c.tag) && decide (c.tag ≤ 99))

theorem all_drop {α : Type} {p : α → Bool} {l : List α} {i : Nat} {x : α} (h : l[i]? = some x) : (l.drop i).all p = (p x && (l.drop (i + 1)).all p) := by rw [drop_cons h]; rfl

theorem allZero_L1_eq {l : List Int} (hl : l.length ≤ 2097160) {N i : Nat} (hi : i ≤ l.length) (hN : l.length - i < N) : spec_allZero_L1 l N i = some (if zeroB (l.drop i) then Sum.inr () else Sum.inl false) := by
  refine loop_ind l.length (fun N i => spec_allZero_L1 l N i = some (if zeroB (l.drop i) then Sum.inr () else Sum.inl false)) ?_ ?_ hi hN
  · intro n
    rw [spec_allZero_L1, if_neg (by simp [len_def])]; simp [zeroB]
  · intro n i hi ih
    obtain ⟨x, hx, _⟩ := at_lt hi
    rw [spec_allZero_L1, if_pos (by simp [len_def]; omega), get_lt hx]
    simp only [Option.bind_some]
    rw [w_id (by omega) (by omega), show ((i : Int) + 1) = ((i + 1 : Nat) : Int) from rfl, ih]
    unfold zeroB
    rw [all_drop hx]
    by_cases h : x = 0 <;> simp [h]
theorem allZero_eq {l : List Int} (hl : l.length ≤ 2097160) {N : Nat} (hN : 9000000 ≤ N) : spec_allZero N l = some (zeroB l) := by
  unfold spec_allZero
  have := allZero_L1_eq hl (Nat.zero_le _) (by omega : l.length - 0 < N)
  rw [show ((0 : Nat) : Int) = 0 from rfl, List.drop_zero] at this
  rw [this]
  cases zeroB l <;> simp

theorem validCell_L1_eq {h : List Cell} {c : Cell} (hl : h.length ≤ 2097160) (hf : c.fields.length ≤ 2097160) (hF : ∀ x ∈ c.fields, I64 x) {N i : Nat} (hi : i ≤ c.fields.length) (hN : c.fields.length - i < N) :
    spec_validCell_L1 h c N i = some (if (c.fields.drop i).all (fun w => wordW h w) then Sum.inr () else Sum.inl false) := by
  refine loop_ind c.fields.length (fun N i => spec_validCell_L1 h c N i = some (if (c.fields.drop i).all (fun w => wordW h w) then Sum.inr () else Sum.inl false)) ?_ ?_ hi hN
  · intro n
    rw [spec_validCell_L1, if_neg (by simp [len_def])]; simp
  · intro n i hi ih
    obtain ⟨x, hx, hxm⟩ := at_lt hi
    rw [spec_validCell_L1, if_pos (by simp [len_def]; omega), get_lt hx]
    simp only [Option.bind_some]
    rw [isWord_eq hl (hF x hxm)]
    simp only [Option.bind_some]
    rw [w_id (by omega) (by omega), show ((i : Int) + 1) = ((i + 1 : Nat) : Int) from rfl, ih, all_drop hx]
    cases wordW h x <;> simp

theorem validCell_eq {h : List Cell} {c : Cell} (hl : h.length ≤ 2097160) (hf : c.fields.length ≤ 2097160) (hF : ∀ x ∈ c.fields, I64 x) {N : Nat} (hN : 9000000 ≤ N) : spec_validCell N h c = some (cellS h c) := by
  unfold spec_validCell cellS
  simp only [inRange_eq, len_def, allZero_eq hf hN]
  by_cases h1 : 3 < (c.fields.length : Int)
  · simp [h1]
  · by_cases h2 : -1 ≤ c.count
    · by_cases h3 : c.count ≤ 999999
      · by_cases h4 : c.count < 1
        · by_cases h5 : c.tag = 0
          · cases h6 : zeroB c.fields
            · simp [h1, h2, h3, h4, h5]
            · by_cases h7 : c.count < 0 <;> simp [h1, h2, h3, h4, h5, h7]
          · simp [h1, h2, h3, h4, h5]
        · have := validCell_L1_eq hl hf hF (Nat.zero_le _) (by omega : c.fields.length - 0 < N)
          rw [show ((0 : Nat) : Int) = 0 from rfl, List.drop_zero] at this
          simp only [h1, h2, h3, h4, this]
          cases c.fields.all (fun w => wordW h w) <;> simp
      · simp [h1, h2, h3]
    · simp [h1, h2]

def cellW (h : List Cell) (c : Cell) (w : Int) : Bool := wordW h w && !(decide (c.count < 0) && !decide (w = 0))
theorem cellValid_L1_eq {h : List Cell} {c : Cell} (hl : h.length ≤ 2097160) (hf : c.fields.length ≤ 2097160) (hF : ∀ x ∈ c.fields, I64 x) {N i : Nat} (hi : i ≤ c.fields.length) (hN : c.fields.length - i < N) :
    impl_cellValid_L1 h c N i = some (if (c.fields.drop i).all (cellW h c) then Sum.inr () else Sum.inl false) := by
  refine loop_ind c.fields.length (fun N i => impl_cellValid_L1 h c N i = some (if (c.fields.drop i).all (cellW h c) then Sum.inr () else Sum.inl false)) ?_ ?_ hi hN
  · intro n
    rw [impl_cellValid_L1, if_neg (by simp [len_def])]; simp
  · intro n i hi ih
    obtain ⟨x, hx, hxm⟩ := at_lt hi
    rw [impl_cellValid_L1, if_pos (by simp [len_def]; omega), get_lt hx]
    simp only [Option.bind_some]
    rw [wordValid_eq hl (hF x hxm)]
    simp only [Option.bind_some]
    rw [w_id (by omega) (by omega), show ((i : Int) + 1) = ((i + 1 : Nat) : Int) from rfl, ih, all_drop hx]
    unfold cellW
    cases wordW h x
    · simp
    · by_cases h1 : c.count < 0 <;> by_cases h2 : x = 0 <;> simp [h1, h2]
theorem cellValid_eq {h : List Cell} {c : Cell} (hl : h.length ≤ 2097160) (hf : c.fields.length ≤ 2097160) (hF : ∀ x ∈ c.fields, I64 x) {N : Nat} (hN : 9000000 ≤ N) : impl_cellValid N h c = some (cellI h c) := by
  have hc : cellI h c = (!(decide (c.count < -1) || decide (c.tag < 0) || decide (99 < c.tag) || decide (3 < (c.fields.length : Int))) &&
      !((decide (c.count < 1) && !decide (c.tag = 0)) || (decide (c.count = 0) && decide (0 < (c.fields.length : Int)))) && c.fields.all (cellW h c)) := rfl
  rw [hc]
  unfold impl_cellValid
  have := cellValid_L1_eq hl hf hF (Nat.zero_le _) (by omega : c.fields.length - 0 < N)
  rw [show ((0 : Nat) : Int) = 0 from rfl, List.drop_zero] at this
  simp only [len_def, this]
  have key : ∀ b : Bool, Sh.cont (some (if b = true then (Sum.inr () : Bool ⊕ Unit) else Sum.inl false)) id (fun _ => some true) = some b := fun b => by cases b <;> rfl
  by_cases h1 : c.count < -1
  · simp [h1]
  · by_cases h2 : c.tag < 0
    · simp [h1, h2]
    · by_cases h3 : 99 < c.tag
      · simp [h1, h2, h3]
      · by_cases h4 : 3 < (c.fields.length : Int)
        · simp [h1, h2, h3, h4]
        · by_cases h5 : c.count < 1
          · by_cases h6 : c.tag = 0
            · by_cases h7 : c.count = 0
              · by_cases h8 : 0 < (c.fields.length : Int)
                · have h8' : 0 < c.fields.length := by omega
                  simp [h2, h3, h4, h5, h6, h7, h8']
                · simp only [h1, h2, h3, h4, h5, h6, h7, h8, key]; simp
              · simp only [h1, h2, h3, h4, h5, h6, h7, key]; simp
            · simp [h1, h2, h3, h4, h5, h6]
          · have h7 : ¬ c.count = 0 := by omega
            simp only [h1, h2, h3, h4, h5, h7, key]; simp

/-- The two agree where the count is not too great. -/
theorem cellS_eq (h : List Cell) (c : Cell) : cellS h c = (cellI h c && decide (c.count ≤ 999999)) := by
  unfold cellS cellI
  by_cases h4 : 3 < (c.fields.length : Int)
  · simp [h4]
  · by_cases hm : c.count ≤ 999999
    · by_cases hlo : -1 ≤ c.count
      · have hlo' : ¬ c.count < -1 := by omega
        by_cases h5 : c.count < 1
        · by_cases h6 : c.tag = 0
          · by_cases h7 : c.count = 0
            · by_cases h8 : 0 < (c.fields.length : Int)
              · have h9 : ¬ (c.fields.length : Int) = 0 := by omega
                have h8' : 0 < c.fields.length := by omega
                have h9' : ¬ c.fields = [] := fun e => by rw [e] at h8'; simp at h8'
                simp [h4, h6, h7, h8', h9']
              · have h9 : c.fields = [] := List.eq_nil_of_length_eq_zero (by omega)
                simp [hm, h7, h6, h9, zeroB]
            · have h8 : c.count < 0 := by omega
              simp only [h4, hm, hlo, hlo', h5, h6, h7, h8, zeroB]
              simp only [decide_true, decide_false, Bool.not_false, Bool.and_true, Bool.true_and, Bool.or_false, Bool.or_true, Bool.and_self, Bool.not_true, if_true, Bool.false_and, Bool.or_self, Bool.true_or]
              have e : ∀ l : List Int, (l.all fun w => decide (w = 0)) = l.all fun w => wordW h w && !(!decide (w = 0)) := fun l => by
                congr 1
                funext w
                by_cases h0 : w = 0
                · subst h0
                  have : wordW h 0 = true := by simp [wordW, intW]
                  simp [this]
                · simp [h0]
              rw [e]
              simp
          · have h6' : decide (c.tag = 0) = false := by simpa using h6
            simp [h4, hm, hlo, hlo', h5, h6']
        · have h7 : ¬ c.count = 0 := by omega
          have h8 : ¬ c.count < 0 := by omega
          by_cases h9 : c.tag < 0
          · have : ¬ 0 ≤ c.tag := by omega
            simp [h4, hm, hlo, hlo', h5, h7, h8, h9, this]
          · have h9' : 0 ≤ c.tag := by omega
            by_cases h10 : 99 < c.tag
            · have : ¬ c.tag ≤ 99 := by omega
              simp [h4, hm, hlo, hlo', h5, h7, h8, h9, h10, this]
            · have : c.tag ≤ 99 := by omega
              simp [h4, hm, hlo, hlo', h5, h7, h8, h9, h9', h10, this]
      · have : c.count < -1 := by omega
        simp [h4, hlo, this]
    · simp [hm]
end RC

namespace RC
open Go

/-! ### Lists by their places -/

def rowOf {α : Type} (n : Nat) (f : Nat → α) : List α := (List.range n).map f
theorem rowOf_len {α : Type} {n : Nat} {f : Nat → α} : (rowOf n f).length = n := by simp [rowOf]
theorem rowOf_get {α : Type} {n : Nat} {f : Nat → α} {j : Nat} (h : j < n) : (rowOf n f)[j]? = some (f j) := by simp [rowOf, h]
theorem rowOf_congr {α : Type} {n : Nat} {f g : Nat → α} (h : ∀ j, j < n → f j = g j) : rowOf n f = rowOf n g := List.map_congr_left fun j hj => h j (List.mem_range.1 hj)
theorem rowOf_set {α : Type} {n : Nat} {f : Nat → α} {j : Nat} {v : α} : (rowOf n f).set j v = rowOf n (fun k => if k = j then v else f k) := by
  apply List.ext_getElem?
  intro k
  rw [List.getElem?_set]
  by_cases hk : k < n
  · rw [rowOf_get hk, rowOf_get hk, rowOf_len]
    by_cases e : j = k
    · subst e; simp [hk]
    · have e' : ¬ k = j := fun h => e h.symm
      simp [e, e']
  · rw [List.getElem?_eq_none (by rw [rowOf_len]; omega), List.getElem?_eq_none (by rw [rowOf_len]; omega), rowOf_len]
    by_cases e : j = k
    · subst e; simp [hk]
    · simp [e]
theorem rowOf_const {α : Type} (n : Nat) (x : α) : List.replicate n x = rowOf n (fun _ => x) := by
  apply List.ext_getElem?
  intro k
  by_cases hk : k < n
  · rw [rowOf_get hk]; simp [hk]
  · rw [List.getElem?_eq_none (by simp; omega), List.getElem?_eq_none (by rw [rowOf_len]; omega)]

/-! ### References -/

def hits (h : List Cell) (j : Nat) (w : Int) : Bool := liveW h w && decide ((w - 1000).toNat = j)
def cnt (h : List Cell) (ws : List Int) (j : Nat) : Nat := ws.countP (hits h j)
def tot (h l : List Cell) (j : Nat) : Nat := (l.map fun c => cnt h c.fields j).sum

theorem cnt_nil (h : List Cell) (j : Nat) : cnt h [] j = 0 := rfl
theorem cnt_cons (h : List Cell) (x : Int) (ws : List Int) (j : Nat) : cnt h (x :: ws) j = (if hits h j x then 1 else 0) + cnt h ws j := by
  unfold cnt; rw [List.countP_cons]; omega
theorem cnt_drop {h : List Cell} {ws : List Int} {i : Nat} {x : Int} (hx : ws[i]? = some x) (j : Nat) : cnt h (ws.drop i) j = (if hits h j x then 1 else 0) + cnt h (ws.drop (i + 1)) j := by rw [drop_cons hx, cnt_cons]
theorem cnt_le (h : List Cell) (ws : List Int) (j : Nat) : cnt h ws j ≤ ws.length := List.countP_le_length
theorem tot_drop {h l : List Cell} {i : Nat} {c : Cell} (hc : l[i]? = some c) (j : Nat) : tot h (l.drop i) j = cnt h c.fields j + tot h (l.drop (i + 1)) j := by rw [drop_cons hc]; simp [tot]
theorem tot_le (h l : List Cell) (j : Nat) : tot h l j ≤ fsum l := by
  induction l with
  | nil => simp [tot]
  | cons c l ih =>
    have := cnt_le h c.fields j
    simp only [tot, fsum, List.map_cons, List.sum_cons] at ih ⊢
    omega
theorem hits_live {h : List Cell} {j : Nat} {x : Int} (hh : hits h j x = true) : liveW h x = true ∧ (x - 1000).toNat = j := by
  unfold hits at hh; simpa using hh
theorem hits_not {h : List Cell} {j : Nat} {x : Int} (hl : liveW h x = false) : hits h j x = false := by simp [hits, hl]
theorem hits_at {h : List Cell} {j : Nat} {x : Int} (hl : liveW h x = true) : hits h j x = decide ((x - 1000).toNat = j) := by simp [hits, hl]

theorem refs_L2_eq {h : List Cell} {c : Cell} {i : Nat} (hc : h[i]? = some c) (hl : h.length ≤ 2097160) (hf : c.fields.length ≤ 2097160) (hF : ∀ x ∈ c.fields, I64 x) {N k : Nat} (hk : k ≤ c.fields.length) (hN : c.fields.length - k < N) :
    ∀ f : Nat → Int, (∀ j, 0 ≤ f j ∧ f j ≤ 2097160 + k) → spec_refsOf_L2 i h N k (rowOf h.length f) = some (rowOf h.length fun j => f j + cnt h (c.fields.drop k) j) := by
  refine loop_ind c.fields.length (fun N k => ∀ f : Nat → Int, (∀ j, 0 ≤ f j ∧ f j ≤ 2097160 + k) → spec_refsOf_L2 i h N k (rowOf h.length f) = some (rowOf h.length fun j => f j + cnt h (c.fields.drop k) j)) ?_ ?_ hk hN
  · intro n f _
    rw [spec_refsOf_L2, get_lt hc]
    simp only [Option.bind_some]
    rw [if_neg (by simp [len_def])]
    simp [cnt_nil]
  · intro n k hk ih f hb
    obtain ⟨x, hx, hxm⟩ := at_lt hk
    rw [spec_refsOf_L2, get_lt hc]
    simp only [Option.bind_some]
    rw [if_pos (by simp [len_def]; omega), get_lt hx]
    simp only [Option.bind_some]
    rw [isLive_eq hl (hF x hxm)]
    simp only [Option.bind_some]
    rw [w_id (n := (k : Int) + 1) (by omega) (by omega), show ((k : Int) + 1) = ((k + 1 : Nat) : Int) from rfl]
    cases hlv : liveW h x
    · simp only [Bool.false_eq_true, if_false, Option.bind_some]
      rw [ih f (fun j => ⟨(hb j).1, by have := (hb j).2; omega⟩)]
      congr 1
      refine rowOf_congr fun j _ => ?_
      rw [cnt_drop hx, hits_not hlv]; simp
    · obtain ⟨q, c', h1, h2, h3, _⟩ := liveW_spec hlv
      have e1 : x - 1000 = (q : Int) := by omega
      simp only [if_true]
      rw [w_id (n := x - 1000) (by omega) (by omega), e1, get_lt (rowOf_get h3)]
      simp only [Option.bind_some]
      have hbq := hb q
      rw [w_id (by omega) (by omega), put_nat, rowOf_set]
      rw [ih _ (fun j => by
        by_cases e : j = q
        · simp only [e, if_true]; omega
        · simp only [e, if_false]; have := hb j; omega)]
      congr 1
      refine rowOf_congr fun j _ => ?_
      rw [cnt_drop hx, hits_at hlv, h2]
      by_cases e : j = q
      · subst e; simp; omega
      · have e' : ¬ q = j := fun h => e h.symm
        simp [e, e']

theorem refs_L1_eq {h : List Cell} (H : Hp h) {M : Nat} (hM : 9000000 ≤ M) {N i : Nat} (hi : i ≤ h.length) (hN : h.length - i < N) :
    ∀ f : Nat → Int, (∀ j, 0 ≤ f j ∧ f j + tot h (h.drop i) j ≤ 2097160) → spec_refsOf_L1 M h N i (rowOf h.length f) = some (rowOf h.length fun j => f j + tot h (h.drop i) j) := by
  have hl := H.len
  refine loop_ind h.length (fun N i => ∀ f : Nat → Int, (∀ j, 0 ≤ f j ∧ f j + tot h (h.drop i) j ≤ 2097160) → spec_refsOf_L1 M h N i (rowOf h.length f) = some (rowOf h.length fun j => f j + tot h (h.drop i) j)) ?_ ?_ hi hN
  · intro n f _
    rw [spec_refsOf_L1, if_neg (by simp [len_def])]
    simp [tot]
  · intro n i hi ih f hb
    obtain ⟨c, hc, hcm⟩ := at_lt hi
    have hfl := H.flen hcm
    have := refs_L2_eq hc hl hfl (H.cells c hcm).fields (Nat.zero_le _) (by omega : c.fields.length - 0 < M) f (fun j => ⟨(hb j).1, by have := (hb j).2; omega⟩)
    rw [show ((0 : Nat) : Int) = 0 from rfl, List.drop_zero] at this
    rw [spec_refsOf_L1, if_pos (by simp [len_def]; omega), this]
    simp only [Option.bind_some]
    rw [w_id (by omega) (by omega), show ((i : Int) + 1) = ((i + 1 : Nat) : Int) from rfl, ih]
    · congr 1
      refine rowOf_congr fun j _ => ?_
      rw [tot_drop hc]; omega
    · intro j
      have := hb j
      rw [tot_drop hc] at this
      omega
def refs (h : List Cell) : List Int := rowOf h.length fun j => (tot h h j : Int)
theorem refsOf_eq {h : List Cell} (H : Hp h) {N : Nat} (hN : 9000000 ≤ N) : spec_refsOf N h = some (refs h) := by
  have hl := H.len
  unfold spec_refsOf
  rw [len_def, mk_ok _ h.length 8 (by omega) (by omega), rowOf_const]
  simp only [Option.bind_some]
  have := refs_L1_eq H hN (Nat.zero_le _) (by omega : h.length - 0 < N) (fun _ => 0) (fun j => ⟨by omega, by
    have h1 := tot_le h (h.drop 0) j
    have h2 := fsum_drop_le h 0
    have h3 := H.size
    unfold hsize at h3; omega⟩)
  rw [show ((0 : Nat) : Int) = 0 from rfl, List.drop_zero] at this
  rw [this]
  simp [refs]

/-! #### The same in the program -/

theorem chk_L5_eq {h : List Cell} {c : Cell} (hl : h.length ≤ 2097160) (hf : c.fields.length ≤ 2097160) (hF : ∀ x ∈ c.fields, I64 x) {N k : Nat} (hk : k ≤ c.fields.length) (hN : c.fields.length - k < N) :
    ∀ f : Nat → Int, (∀ j, 0 ≤ f j ∧ f j ≤ 2097160 + k) → impl_checkedHeap_L5 c h N k (rowOf h.length f) = some (rowOf h.length fun j => f j + cnt h (c.fields.drop k) j) := by
  refine loop_ind c.fields.length (fun N k => ∀ f : Nat → Int, (∀ j, 0 ≤ f j ∧ f j ≤ 2097160 + k) → impl_checkedHeap_L5 c h N k (rowOf h.length f) = some (rowOf h.length fun j => f j + cnt h (c.fields.drop k) j)) ?_ ?_ hk hN
  · intro n f _
    rw [impl_checkedHeap_L5, if_neg (by simp [len_def])]
    simp [cnt_nil]
  · intro n k hk ih f hb
    obtain ⟨x, hx, hxm⟩ := at_lt hk
    rw [impl_checkedHeap_L5, if_pos (by simp [len_def]; omega), get_lt hx]
    simp only [Option.bind_some]
    rw [liveAt_eq hl (hF x hxm)]
    simp only [Option.bind_some]
    rw [w_id (n := (k : Int) + 1) (by omega) (by omega), show ((k : Int) + 1) = ((k + 1 : Nat) : Int) from rfl]
    cases hlv : liveW h x
    · simp only [Bool.false_eq_true, if_false, Option.bind_some]
      rw [ih f (fun j => ⟨(hb j).1, by have := (hb j).2; omega⟩)]
      congr 1
      refine rowOf_congr fun j _ => ?_
      rw [cnt_drop hx, hits_not hlv]; simp
    · obtain ⟨q, c', h1, h2, h3, _⟩ := liveW_spec hlv
      have e1 : x - 1000 = (q : Int) := by omega
      simp only [if_true]
      rw [w_id (n := x - 1000) (by omega) (by omega), e1, get_lt (rowOf_get h3)]
      simp only [Option.bind_some]
      have hbq := hb q
      rw [w_id (by omega) (by omega), put_nat, rowOf_set]
      rw [ih _ (fun j => by
        by_cases e : j = q
        · simp only [e, if_true]; omega
        · simp only [e, if_false]; have := hb j; omega)]
      congr 1
      refine rowOf_congr fun j _ => ?_
      rw [cnt_drop hx, hits_at hlv, h2]
      by_cases e : j = q
      · subst e; simp; omega
      · have e' : ¬ q = j := fun h => e h.symm
        simp [e, e']

theorem chk_L1_eq {h : List Cell} (H : Hp h) {M : Nat} (hM : 9000000 ≤ M) {N i : Nat} (hi : i ≤ h.length) (hN : h.length - i < N) :
    ∀ f : Nat → Int, (∀ j, 0 ≤ f j ∧ f j + tot h (h.drop i) j ≤ 2097160) → impl_checkedHeap_L1 M h N i (rowOf h.length f) = some (if (h.drop i).all (cellI h) then Sum.inr (rowOf h.length fun j => f j + tot h (h.drop i) j) else Sum.inl ([], false)) := by
  have hl := H.len
  refine loop_ind h.length (fun N i => ∀ f : Nat → Int, (∀ j, 0 ≤ f j ∧ f j + tot h (h.drop i) j ≤ 2097160) → impl_checkedHeap_L1 M h N i (rowOf h.length f) = some (if (h.drop i).all (cellI h) then Sum.inr (rowOf h.length fun j => f j + tot h (h.drop i) j) else Sum.inl ([], false))) ?_ ?_ hi hN
  · intro n f _
    rw [impl_checkedHeap_L1, if_neg (by simp [len_def])]
    simp [tot]
  · intro n i hi ih f hb
    obtain ⟨c, hc, hcm⟩ := at_lt hi
    have hfl := H.flen hcm
    rw [impl_checkedHeap_L1, if_pos (by simp [len_def]; omega), get_lt hc]
    simp only [Option.bind_some]
    rw [cellValid_eq hl hfl (H.cells c hcm).fields hM, all_drop hc]
    simp only [Option.bind_some]
    cases hv : cellI h c
    · simp
    · simp only [Bool.not_true, Bool.false_eq_true, if_false, Bool.true_and]
      have := chk_L5_eq hl hfl (H.cells c hcm).fields (Nat.zero_le _) (by omega : c.fields.length - 0 < M) f (fun j => ⟨(hb j).1, by have := (hb j).2; omega⟩)
      rw [show ((0 : Nat) : Int) = 0 from rfl, List.drop_zero] at this
      rw [this]
      simp only [Option.bind_some]
      rw [w_id (by omega) (by omega), show ((i : Int) + 1) = ((i + 1 : Nat) : Int) from rfl, ih]
      · have e : (rowOf h.length fun j => f j + (cnt h c.fields j : Int) + (tot h (h.drop (i + 1)) j : Int)) = rowOf h.length fun j => f j + (tot h (h.drop i) j : Int) := rowOf_congr fun j _ => by rw [tot_drop hc]; omega
        rw [e]
      · intro j
        have := hb j
        rw [tot_drop hc] at this
        omega

/-! ### All places from one on -/

def allFrom (p : Nat → Bool) : Nat → Nat → Bool
  | 0, _ => true
  | k + 1, i => p i && allFrom p k (i + 1)
def allF (p : Nat → Bool) (n i : Nat) : Bool := allFrom p (n - i) i
theorem allF_end (p : Nat → Bool) (n : Nat) : allF p n n = true := by simp [allF, allFrom]
theorem allF_step {p : Nat → Bool} {n i : Nat} (h : i < n) : allF p n i = (p i && allF p n (i + 1)) := by
  unfold allF
  obtain ⟨k, hk⟩ : ∃ k, n - i = k + 1 := ⟨n - i - 1, by omega⟩
  rw [hk, show n - (i + 1) = k by omega]; rfl
theorem allF_iff {p : Nat → Bool} {n i : Nat} (h : i ≤ n) : allF p n i = true ↔ ∀ j, i ≤ j → j < n → p j = true := by
  obtain ⟨k, hk⟩ : ∃ k, n - i = k := ⟨_, rfl⟩
  induction k generalizing i with
  | zero =>
    have : i = n := by omega
    subst this
    rw [allF_end]
    simp; intro j h1 h2; omega
  | succ k ih =>
    rw [allF_step (by omega), Bool.and_eq_true, ih (by omega) (by omega)]
    constructor
    · rintro ⟨h1, h2⟩ j h3 h4
      rcases Nat.eq_or_lt_of_le h3 with rfl | h5
      · exact h1
      · exact h2 j h5 h4
    · intro h1
      exact ⟨h1 i (Nat.le_refl _) (by omega), fun j h2 h3 => h1 j (by omega) h3⟩

def okS (h : List Cell) (j : Nat) : Bool := match h[j]? with | some c => !(decide (0 < c.count) && decide (c.count < tot h h j)) | none => true
def okI (h : List Cell) (j : Nat) : Bool := match h[j]? with | some c => !(decide (0 < c.count) && (decide (c.count < tot h h j) || decide (999999 < c.count))) | none => true

theorem valid_L2_eq {h : List Cell} (hl : h.length ≤ 2097160) {N i : Nat} (hi : i ≤ h.length) (hN : h.length - i < N) : spec_validHeap_L2 h (refs h) N i = some (if allF (okS h) h.length i then Sum.inr () else Sum.inl false) := by
  refine loop_ind h.length (fun N i => spec_validHeap_L2 h (refs h) N i = some (if allF (okS h) h.length i then Sum.inr () else Sum.inl false)) ?_ ?_ hi hN
  · intro n
    rw [spec_validHeap_L2, if_neg (by simp [len_def]), allF_end]; rfl
  · intro n i hi ih
    obtain ⟨c, hc, _⟩ := at_lt hi
    rw [spec_validHeap_L2, if_pos (by simp [len_def]; omega), get_lt hc]
    simp only [Option.bind_some]
    rw [get_lt (l := refs h) (rowOf_get hi), w_id (by omega) (by omega), show ((i : Int) + 1) = ((i + 1 : Nat) : Int) from rfl, ih, allF_step hi]
    unfold okS
    rw [hc]
    by_cases h1 : 0 < c.count <;> by_cases h2 : c.count < tot h h i <;> simp [h1, h2]

def nats (l : List Nat) : List Int := List.map (fun n : Nat => (n : Int)) l
def zeros (h : List Cell) (i : Nat) : List Nat := (List.range' i (h.length - i)).filter fun j => decide (tot h h j = 0)
theorem zeros_end (h : List Cell) : zeros h h.length = [] := by simp [zeros]
theorem zeros_step {h : List Cell} {i : Nat} (hi : i < h.length) : zeros h i = (if tot h h i = 0 then [i] else []) ++ zeros h (i + 1) := by
  unfold zeros
  obtain ⟨k, hk⟩ : ∃ k, h.length - i = k + 1 := ⟨h.length - i - 1, by omega⟩
  rw [hk, show h.length - (i + 1) = k by omega, List.range'_succ, List.filter_cons]
  by_cases h1 : tot h h i = 0 <;> simp [h1]

theorem chk_L2_eq {h : List Cell} (hl : h.length ≤ 2097160) {N i : Nat} (hi : i ≤ h.length) (hN : h.length - i < N) : ∀ ws : List Nat, ws.length ≤ i →
    impl_checkedHeap_L2 (refs h) h N i (nats ws) = some (if allF (okI h) h.length i then Sum.inr (nats (ws ++ zeros h i)) else Sum.inl ([], false)) := by
  refine loop_ind h.length (fun N i => ∀ ws : List Nat, ws.length ≤ i → impl_checkedHeap_L2 (refs h) h N i (nats ws) = some (if allF (okI h) h.length i then Sum.inr (nats (ws ++ zeros h i)) else Sum.inl ([], false))) ?_ ?_ hi hN
  · intro n ws _
    rw [impl_checkedHeap_L2, if_neg (by simp [len_def]), allF_end, zeros_end]; simp
  · intro n i hi ih ws hw
    obtain ⟨c, hc, _⟩ := at_lt hi
    rw [impl_checkedHeap_L2, if_pos (by simp [len_def]; omega), get_lt hc]
    simp only [Option.bind_some]
    rw [get_lt (l := refs h) (rowOf_get hi), w_id (by omega) (by omega), show ((i : Int) + 1) = ((i + 1 : Nat) : Int) from rfl, allF_step hi, zeros_step hi]
    simp only [Option.bind_some]
    have hok : okI h i = !(decide (0 < c.count) && (decide (c.count < tot h h i) || decide (999999 < c.count))) := by unfold okI; rw [hc]
    rw [hok]
    by_cases hbad : 0 < c.count ∧ (c.count < tot h h i ∨ 999999 < c.count)
    · obtain ⟨h1, h2⟩ := hbad
      by_cases h3 : c.count < tot h h i
      · simp [h1, h3]
      · have h4 : 999999 < c.count := by rcases h2 with h | h; exact absurd h h3; exact h
        simp [h1, h3, h4]
    · have hgood : (decide (0 < c.count) && (decide (c.count < tot h h i) || decide (999999 < c.count))) = false := by
        by_cases h1 : 0 < c.count
        · have h2 : ¬ c.count < tot h h i := fun h => hbad ⟨h1, .inl h⟩
          have h3 : ¬ 999999 < c.count := fun h => hbad ⟨h1, .inr h⟩
          simp [h2, h3]
        · simp [h1]
      rw [hgood]
      have e1 : (if decide (0 < c.count) = true then (if decide (c.count < (tot h h i : Int)) = true then some true else some (decide (999999 < c.count))) else some false) = some false := by
        by_cases h1 : 0 < c.count
        · have h2 : ¬ c.count < tot h h i := fun h => hbad ⟨h1, .inl h⟩
          have h3 : ¬ 999999 < c.count := fun h => hbad ⟨h1, .inr h⟩
          simp [h1, h2, h3]
        · simp [h1]
      rw [e1]
      simp only [Option.bind_some, Bool.false_eq_true, if_false, Bool.not_false, Bool.true_and]
      by_cases hz : tot h h i = 0
      · have e2 : decide ((tot h h i : Int) = 0) = true := by simpa using hz
        rw [if_pos e2, app_ok _ _ _ (by simp [nats]; omega) (by simp [nats]; omega)]
        simp only [Option.bind_some, Sh.cont_inr]
        have := ih (ws ++ [i]) (by simp; omega)
        simp only [nats, List.map_append, List.map_cons, List.map_nil] at this ⊢
        rw [this, if_pos hz]
        simp
      · have e2 : decide ((tot h h i : Int) = 0) = false := by simp; omega
        rw [if_neg (by rw [e2]; simp)]
        simp only [Sh.cont_inr]
        rw [ih ws (by omega), if_neg hz]
        simp
end RC

namespace RC
open Go

/-! ### Who points to whom -/

def WF (h : List Cell) : Prop := ∀ c ∈ h, ∀ w ∈ c.fields, wordW h w = true
def ch (h : List Cell) (i j : Nat) : Prop := ∃ c w, h[i]? = some c ∧ w ∈ c.fields ∧ liveW h w = true ∧ (w - 1000).toNat = j
def Ranked (h : List Cell) : Prop := ∃ rk : Nat → Nat, ∀ i j, ch h i j → rk j < rk i

theorem ch_lt {h : List Cell} {i j : Nat} (hc : ch h i j) : i < h.length ∧ j < h.length := by
  obtain ⟨c, w, h1, _, h3, h4⟩ := hc
  obtain ⟨q, _, _, h5, h6, _⟩ := liveW_spec h3
  exact ⟨(List.getElem?_eq_some_iff.1 h1).1, by omega⟩
theorem cnt_pos {h : List Cell} {i j : Nat} {c : Cell} (hc : h[i]? = some c) : 0 < cnt h c.fields j ↔ ch h i j := by
  unfold cnt
  rw [List.countP_pos_iff]
  constructor
  · rintro ⟨w, h1, h2⟩
    obtain ⟨h3, h4⟩ := hits_live h2
    exact ⟨c, w, hc, h1, h3, h4⟩
  · rintro ⟨c', w, h1, h2, h3, h4⟩
    rw [hc] at h1; cases h1
    exact ⟨w, h2, by simp [hits, h3, h4]⟩

/-! ### Counting the marked ones -/

def cntB (m : Nat → Bool) (n : Nat) : Nat := (List.range n).countP m
theorem cntB_le (m : Nat → Bool) (n : Nat) : cntB m n ≤ n := by have := List.countP_le_length (p := m) (l := List.range n); simpa [cntB] using this
theorem cntB_succ (m : Nat → Bool) (n : Nat) : cntB m (n + 1) = cntB m n + if m n then 1 else 0 := by
  unfold cntB; rw [List.range_succ, List.countP_append]; simp [List.countP_cons]
theorem cntB_congr {m m' : Nat → Bool} {n : Nat} (h : ∀ j, j < n → m j = m' j) : cntB m n = cntB m' n := by
  induction n with
  | zero => rfl
  | succ n ih => rw [cntB_succ, cntB_succ, ih (fun j hj => h j (by omega)), h n (by omega)]
theorem cntB_set {m : Nat → Bool} {n i : Nat} (hi : i < n) (hm : m i = false) : cntB (fun k => if k = i then true else m k) n = cntB m n + 1 := by
  induction n with
  | zero => omega
  | succ n ih =>
    rw [cntB_succ, cntB_succ]
    by_cases e : i = n
    · subst e
      rw [cntB_congr (m' := m) (fun j hj => by simp; omega)]
      simp [hm]
    · rw [ih (by omega)]
      have : ¬ n = i := fun h => e h.symm
      simp [this]; omega
theorem cntB_full {m : Nat → Bool} {n : Nat} : cntB m n = n ↔ ∀ j, j < n → m j = true := by
  constructor
  · intro h
    induction n with
    | zero => intro j hj; omega
    | succ n ih =>
      rw [cntB_succ] at h
      have hle := cntB_le m n
      have h1 : m n = true := by cases hm : m n <;> simp [hm] at h ⊢; omega
      simp [h1] at h
      intro j hj
      rcases Nat.lt_succ_iff_lt_or_eq.1 hj with h2 | rfl
      · exact ih h j h2
      · exact h1
  · intro h
    induction n with
    | zero => rfl
    | succ n ih => rw [cntB_succ, ih (fun j hj => h j (by omega)), h n (by omega)]; rfl

/-! ### The reference's way: marking what leads to marked ones alone -/

def okM (m : Nat → Bool) (w : Int) : Bool := !(decide (1000 ≤ w)) || m (w - 1000).toNat
theorem allMarked_L1_eq {n : Nat} {m : Nat → Bool} {l : List Int} (hn : n ≤ 2097160) (hl : l.length ≤ 2097160) (hw : ∀ w ∈ l, 1000 ≤ w → w - 1000 < n) {N i : Nat} (hi : i ≤ l.length) (hN : l.length - i < N) :
    spec_allMarked_L1 (rowOf n m) l N i = some (if (l.drop i).all (okM m) then Sum.inr () else Sum.inl false) := by
  refine loop_ind l.length (fun N i => spec_allMarked_L1 (rowOf n m) l N i = some (if (l.drop i).all (okM m) then Sum.inr () else Sum.inl false)) ?_ ?_ hi hN
  · intro n'
    rw [spec_allMarked_L1, if_neg (by simp [len_def])]; simp
  · intro n' i hi ih
    obtain ⟨x, hx, hxm⟩ := at_lt hi
    rw [spec_allMarked_L1, if_pos (by simp [len_def]; omega), get_lt hx]
    simp only [Option.bind_some]
    rw [w_id (n := (i : Int) + 1) (by omega) (by omega), show ((i : Int) + 1) = ((i + 1 : Nat) : Int) from rfl, ih, all_drop hx]
    unfold spec_isPointer okM
    simp only [Option.bind_some]
    by_cases h1 : 1000 ≤ x
    · have h2 := hw x hxm h1
      have e1 : x - 1000 = (((x - 1000).toNat : Nat) : Int) := by omega
      rw [w_id (n := x - 1000) (by omega) (by omega)]
      have e2 : Sh.get (rowOf n m) (x - 1000) = some (m (x - 1000).toNat) := by rw [get_pos' (by omega), rowOf_get (by omega)]
      rw [e2]
      cases m (x - 1000).toNat <;> simp [h1]
    · simp [h1]
theorem allMarked_eq {n : Nat} {m : Nat → Bool} {l : List Int} (hn : n ≤ 2097160) (hl : l.length ≤ 2097160) (hw : ∀ w ∈ l, 1000 ≤ w → w - 1000 < n) {N : Nat} (hN : 9000000 ≤ N) : spec_allMarked N (rowOf n m) l = some (l.all (okM m)) := by
  unfold spec_allMarked
  have := allMarked_L1_eq (m := m) hn hl hw (Nat.zero_le _) (by omega : l.length - 0 < N)
  rw [show ((0 : Nat) : Int) = 0 from rfl, List.drop_zero] at this
  rw [this]
  cases l.all (okM m) <;> rfl

/-- What is known of what is marked: each after those to which it leads. -/
def J (h : List Cell) (m : Nat → Bool) (many : Nat) : Prop :=
  (∃ rk : Nat → Nat, (∀ j, j < h.length → m j = true → rk j < many) ∧ ∀ i j, m i = true → ch h i j → m j = true ∧ rk j < rk i) ∧ cntB m h.length = many

theorem J.mark {h : List Cell} {m : Nat → Bool} {many i : Nat} (hJ : J h m many) (hi : i < h.length) (hm : m i = false) (hall : ∀ j, ch h i j → m j = true) : J h (fun k => if k = i then true else m k) (many + 1) := by
  obtain ⟨⟨rk, h1, h2⟩, h3⟩ := hJ
  refine ⟨⟨fun k => if k = i then many else rk k, fun j hj hmj => ?_, fun a b hma hab => ?_⟩, by rw [cntB_set hi hm, h3]⟩
  · by_cases e : j = i
    · simp [e]
    · simp only [e, if_false] at hmj ⊢
      have := h1 j hj hmj; omega
  · have hb := (ch_lt hab).2
    by_cases ea : a = i
    · subst ea
      have hmb := hall b hab
      have eb : ¬ b = a := fun e => by rw [e, hm] at hmb; cases hmb
      simp only [eb, if_false, if_true]
      exact ⟨hmb, h1 b hb hmb⟩
    · simp only [ea, if_false] at hma
      obtain ⟨h4, h5⟩ := h2 a b hma hab
      have eb : ¬ b = i := fun e => by rw [e, hm] at h4; cases h4
      simp only [ea, eb, if_false]
      exact ⟨h4, h5⟩

def allm (h : List Cell) (m : Nat → Bool) (i : Nat) : Prop := ∀ j, ch h i j → m j = true
theorem allm_iff {h : List Cell} (hw : WF h) {m : Nat → Bool} {i : Nat} {c : Cell} (hc : h[i]? = some c) : c.fields.all (okM m) = true ↔ allm h m i := by
  rw [List.all_eq_true]
  constructor
  · rintro h1 j ⟨c', w, h2, h3, h4, h5⟩
    rw [hc] at h2; cases h2
    have := h1 w h3
    obtain ⟨q, _, h6, _⟩ := liveW_spec h4
    have h7 : 1000 ≤ w := by omega
    simp only [okM, h7, decide_true, Bool.not_true, Bool.false_or] at this
    rw [← h5]; exact this
  · intro h1 w h2
    unfold okM
    by_cases h3 : 1000 ≤ w
    · have h4 := hw c (List.mem_of_getElem? hc) w h2
      have h5 : intW w = false := by unfold intW; simp; omega
      unfold wordW at h4
      rw [h5, Bool.or_false] at h4
      have := h1 _ ⟨c, w, hc, h2, h4, rfl⟩
      simp [this]
    · simp [h3]
theorem wf_lt {h : List Cell} (hw : WF h) {c : Cell} (hc : c ∈ h) : ∀ w ∈ c.fields, 1000 ≤ w → w - 1000 < (h.length : Int) := fun w h2 h3 => by
  have h4 := hw c hc w h2
  have h5 : intW w = false := by unfold intW; simp; omega
  unfold wordW at h4
  rw [h5, Bool.or_false] at h4
  obtain ⟨q, _, h6, _, h7, _⟩ := liveW_spec h4
  omega

theorem acyc_L2 {h : List Cell} (H : Hp h) (hw : WF h) {M : Nat} (hM : 9000000 ≤ M) {N i : Nat} (hi : i ≤ h.length) (hN : h.length - i < N) : ∀ (m : Nat → Bool) (many : Nat) (more : Bool), J h m many →
    ∃ m' many' more', spec_isAcyclic_L2 M h N (many : Int) more i (rowOf h.length m) = some (((many' : Nat) : Int), more', rowOf h.length m') ∧ J h m' many' ∧ many ≤ many' ∧
      (more' = false → more = false ∧ (∀ j, j < h.length → m' j = m j) ∧ ∀ j, i ≤ j → j < h.length → m j = true ∨ ¬ allm h m j) ∧ (more' = true → more = true ∨ many < many') := by
  have hl := H.len
  refine loop_ind h.length (fun N i => ∀ (m : Nat → Bool) (many : Nat) (more : Bool), J h m many →
    ∃ m' many' more', spec_isAcyclic_L2 M h N (many : Int) more i (rowOf h.length m) = some (((many' : Nat) : Int), more', rowOf h.length m') ∧ J h m' many' ∧ many ≤ many' ∧
      (more' = false → more = false ∧ (∀ j, j < h.length → m' j = m j) ∧ ∀ j, i ≤ j → j < h.length → m j = true ∨ ¬ allm h m j) ∧ (more' = true → more = true ∨ many < many')) ?_ ?_ hi hN
  · intro n m many more hJ
    refine ⟨m, many, more, ?_, hJ, Nat.le_refl _, fun e => ⟨e, fun _ _ => rfl, fun j h1 h2 => by omega⟩, fun e => .inl e⟩
    rw [spec_isAcyclic_L2, if_neg (by simp [len_def])]
  · intro n i hi ih m many more hJ
    obtain ⟨c, hc, hcm⟩ := at_lt hi
    have hmany : many ≤ h.length := by rw [← hJ.2]; exact cntB_le _ _
    rw [spec_isAcyclic_L2, if_pos (by simp [len_def]; omega), get_lt (rowOf_get hi)]
    simp only [Option.bind_some]
    rw [get_lt hc]
    simp only [Option.bind_some]
    rw [allMarked_eq hl (H.flen hcm) (wf_lt hw hcm) hM]
    simp only [Option.bind_some]
    rw [w_id (n := (i : Int) + 1) (by omega) (by omega), show ((i : Int) + 1) = ((i + 1 : Nat) : Int) from rfl]
    cases hmi : m i with
    | true =>
      obtain ⟨m', many', more', e1, e2, e3, e4, e5⟩ := ih m many more hJ
      refine ⟨m', many', more', by simpa using e1, e2, e3, fun e => ?_, e5⟩
      obtain ⟨f1, f2, f3⟩ := e4 e
      refine ⟨f1, f2, fun j h1 h2 => ?_⟩
      rcases Nat.eq_or_lt_of_le h1 with rfl | h3
      · exact .inl hmi
      · exact f3 j h3 h2
    | false =>
      cases ha : c.fields.all (okM m) with
      | false =>
        obtain ⟨m', many', more', e1, e2, e3, e4, e5⟩ := ih m many more hJ
        refine ⟨m', many', more', by simpa using e1, e2, e3, fun e => ?_, e5⟩
        obtain ⟨f1, f2, f3⟩ := e4 e
        refine ⟨f1, f2, fun j h1 h2 => ?_⟩
        rcases Nat.eq_or_lt_of_le h1 with rfl | h3
        · refine .inr fun h4 => ?_
          rw [(allm_iff hw hc).2 h4] at ha; cases ha
        · exact f3 j h3 h2
      | true =>
        have hJ' := hJ.mark hi hmi ((allm_iff hw hc).1 ha)
        obtain ⟨m', many', more', e1, e2, e3, e4, e5⟩ := ih _ (many + 1) true hJ'
        refine ⟨m', many', more', ?_, e2, by omega, fun e => ?_, fun e => .inr (by omega)⟩
        · have ew : Sh.w ((many : Int) + 1) = ((many + 1 : Nat) : Int) := by rw [w_id (by omega) (by omega)]; rfl
          simp only [Bool.not_false, if_true, Option.bind_some, ew, put_nat, rowOf_set]
          exact e1
        · have := (e4 e).1; cases this

theorem acyc_L1 {h : List Cell} (H : Hp h) (hw : WF h) {M : Nat} (hM : 9000000 ≤ M) : ∀ (d N : Nat) (m : Nat → Bool) (many : Nat), J h m many → h.length - many = d → d + 1 < N →
    ∃ m' many', spec_isAcyclic_L1 M h N (many : Int) true (rowOf h.length m) = some ((many' : Nat) : Int) ∧ J h m' many' ∧ ∀ j, j < h.length → m' j = true ∨ ¬ allm h m' j := by
  have hl := H.len
  intro d
  induction d using Nat.strongRecOn with
  | _ d ih =>
    intro N m many hJ hd hN
    obtain ⟨n, rfl⟩ : ∃ n, N = n + 1 := ⟨N - 1, by omega⟩
    have hmany : many ≤ h.length := by rw [← hJ.2]; exact cntB_le _ _
    obtain ⟨m', many', more', e1, e2, e3, e4, e5⟩ := acyc_L2 H hw hM (Nat.zero_le _) (by omega : h.length - 0 < M) m many false hJ
    rw [show ((0 : Nat) : Int) = 0 from rfl] at e1
    have hmany' : many' ≤ h.length := by rw [← e2.2]; exact cntB_le _ _
    rw [spec_isAcyclic_L1, if_pos rfl, e1]
    simp only [Option.bind_some]
    cases more' with
    | true =>
      have h1 : many < many' := by rcases e5 rfl with h | h; cases h; exact h
      exact ih (h.length - many') (by omega) n m' many' e2 rfl (by omega)
    | false =>
      obtain ⟨_, f2, f3⟩ := e4 rfl
      obtain ⟨n', rfl⟩ : ∃ n', n = n' + 1 := ⟨n - 1, by omega⟩
      refine ⟨m', many', ?_, e2, fun j hj => ?_⟩
      · rw [spec_isAcyclic_L1, if_neg (by simp)]
      · rcases f3 j (Nat.zero_le _) hj with h1 | h1
        · left; rw [f2 j hj]; exact h1
        · right
          intro h2
          exact h1 fun q hq => by rw [← f2 q (ch_lt hq).2]; exact h2 q hq

theorem ranked_of_marks {h : List Cell} {m : Nat → Bool} {many : Nat} (hJ : J h m many) (hc : ∀ j, j < h.length → m j = true ∨ ¬ allm h m j) : many = h.length ↔ Ranked h := by
  obtain ⟨⟨rk, h1, h2⟩, h3⟩ := hJ
  constructor
  · intro e
    have hall := cntB_full.1 (h3.trans e)
    exact ⟨rk, fun i j hij => (h2 i j (hall i (ch_lt hij).1) hij).2⟩
  · rintro ⟨rk0, hr⟩
    rw [← h3]
    refine cntB_full.2 fun j hj => ?_
    have key : ∀ d j, j < h.length → rk0 j < d → m j = true := by
      intro d
      induction d with
      | zero => intro j _ h4; omega
      | succ d ih =>
        intro j hj hlt
        rcases hc j hj with h4 | h4
        · exact h4
        · exact absurd (fun q hq => ih q (ch_lt hq).2 (by have := hr j q hq; omega)) h4
    exact key (rk0 j + 1) j hj (by omega)

theorem isAcyclic_eq {h : List Cell} (H : Hp h) (hw : WF h) {N : Nat} (hN : 9000000 ≤ N) : ∃ b, spec_isAcyclic N h = some b ∧ (b = true ↔ Ranked h) := by
  have hl := H.len
  unfold spec_isAcyclic
  rw [len_def, mk_ok _ h.length 1 (by omega) (by omega), rowOf_const]
  simp only [Option.bind_some]
  have hJ0 : J h (fun _ => false) 0 := ⟨⟨fun _ => 0, fun _ _ h => (by cases h), fun _ _ h => (by cases h)⟩, by
    have : ∀ n, cntB (fun _ => false) n = 0 := fun n => by induction n with
      | zero => rfl
      | succ n ih => rw [cntB_succ, ih]; rfl
    exact this _⟩
  obtain ⟨m', many', e1, e2, e3⟩ := acyc_L1 H hw hN _ N _ 0 hJ0 rfl (by omega)
  rw [show ((0 : Nat) : Int) = 0 from rfl] at e1
  rw [e1]
  simp only [Option.bind_some]
  refine ⟨_, rfl, ?_⟩
  rw [decide_eq_true_eq, ← ranked_of_marks e2 e3]
  omega
end RC

namespace RC
open Go

/-! ### The program's way: a cell to which no other one points any more is taken away -/

def fl (h : List Cell) (i : Nat) : List Int := match h[i]? with | some c => c.fields | none => []
theorem fl_eq {h : List Cell} {i : Nat} {c : Cell} (hc : h[i]? = some c) : fl h i = c.fields := by simp [fl, hc]
/-- How often the cells that are left point to one. -/
def unTo (h : List Cell) (p : Nat → Bool) (j : Nat) : Nat → Nat
  | 0 => 0
  | n + 1 => unTo h p j n + if p n then 0 else cnt h (fl h n) j
def un (h : List Cell) (p : Nat → Bool) (j : Nat) : Nat := unTo h p j h.length

theorem unTo_zero {h : List Cell} {p : Nat → Bool} {j n : Nat} : unTo h p j n = 0 ↔ ∀ i, i < n → p i = false → cnt h (fl h i) j = 0 := by
  induction n with
  | zero => simp [unTo]
  | succ n ih =>
    unfold unTo
    constructor
    · intro e i hi hp
      rcases Nat.lt_succ_iff_lt_or_eq.1 hi with h1 | rfl
      · exact ih.1 (by omega) i h1 hp
      · simp [hp] at e; omega
    · intro e
      rw [ih.2 fun i hi => e i (by omega)]
      cases hp : p n with
      | true => simp
      | false => simp [e n (by omega) hp]
theorem unTo_congr {h : List Cell} {p p' : Nat → Bool} {j n : Nat} (e : ∀ i, i < n → p i = p' i) : unTo h p j n = unTo h p' j n := by
  induction n with
  | zero => rfl
  | succ n ih => unfold unTo; rw [ih fun i hi => e i (by omega), e n (by omega)]
theorem unTo_set {h : List Cell} {p : Nat → Bool} {j n x : Nat} (hx : x < n) (hp : p x = false) : unTo h p j n = unTo h (fun k => if k = x then true else p k) j n + cnt h (fl h x) j := by
  induction n with
  | zero => omega
  | succ n ih =>
    unfold unTo
    by_cases e : x = n
    · subst e
      rw [unTo_congr (p' := fun k => if k = x then true else p k) (n := x) (fun i hi => by
        have : ¬ i = x := by omega
        simp [this])]
      simp [hp]
    · have e' : ¬ n = x := fun h => e h.symm
      rw [ih (by omega)]
      simp only [e', if_false]
      omega
theorem unTo_none (h : List Cell) (j : Nat) : ∀ n, n ≤ h.length → unTo h (fun _ => false) j n = tot h (h.take n) j := by
  intro n
  induction n with
  | zero => intro _; simp [unTo, tot]
  | succ n ih =>
    intro hn
    obtain ⟨c, hc, _⟩ := at_lt (l := h) (i := n) (by omega)
    unfold unTo
    rw [ih (by omega), take_snoc hc, fl_eq hc]
    simp [tot]
theorem un_none (h : List Cell) (j : Nat) : un h (fun _ => false) j = tot h h j := by
  unfold un; rw [unTo_none h j _ (Nat.le_refl _), List.take_length]
theorem unTo_le (h : List Cell) (p : Nat → Bool) (j : Nat) : ∀ n, n ≤ h.length → unTo h p j n ≤ fsum (h.take n) := by
  intro n
  induction n with
  | zero => intro _; simp [unTo]
  | succ n ih =>
    intro hn
    obtain ⟨c, hc, _⟩ := at_lt (l := h) (i := n) (by omega)
    have h1 := ih (by omega)
    have h2 := cnt_le h c.fields j
    unfold unTo
    rw [take_snoc hc, fsum_append, fl_eq hc]
    have : fsum [c] = c.fields.length := by simp [fsum]
    split <;> omega
theorem un_le (h : List Cell) (p : Nat → Bool) (j : Nat) : un h p j ≤ fsum h := by
  have := unTo_le h p j h.length (Nat.le_refl _)
  rwa [List.take_length] at this

theorem chk_L4_eq {h : List Cell} {c : Cell} (hl : h.length ≤ 2097160) (hf : c.fields.length ≤ 2097160) (hF : ∀ x ∈ c.fields, I64 x) {N k : Nat} (hk : k ≤ c.fields.length) (hN : c.fields.length - k < N) :
    ∀ (g : Nat → Nat) (ws : List Nat), (∀ j, g j ≤ 2097160) → ws.length ≤ 4194330 + k → ∃ ps : List Nat, impl_checkedHeap_L4 c h N k (rowOf h.length fun j => ((g j + cnt h (c.fields.drop k) j : Nat) : Int)) (nats ws) = some (rowOf h.length fun j => ((g j : Nat) : Int), nats (ws ++ ps)) ∧
      ps.Nodup ∧ ps.length ≤ c.fields.length - k ∧ ∀ j, j ∈ ps ↔ g j = 0 ∧ 0 < cnt h (c.fields.drop k) j := by
  refine loop_ind c.fields.length (fun N k => ∀ (g : Nat → Nat) (ws : List Nat), (∀ j, g j ≤ 2097160) → ws.length ≤ 4194330 + k → ∃ ps : List Nat, impl_checkedHeap_L4 c h N k (rowOf h.length fun j => ((g j + cnt h (c.fields.drop k) j : Nat) : Int)) (nats ws) = some (rowOf h.length fun j => ((g j : Nat) : Int), nats (ws ++ ps)) ∧
      ps.Nodup ∧ ps.length ≤ c.fields.length - k ∧ ∀ j, j ∈ ps ↔ g j = 0 ∧ 0 < cnt h (c.fields.drop k) j) ?_ ?_ hk hN
  · intro n g ws _ _
    refine ⟨[], ?_, List.nodup_nil, by simp, fun j => by simp [cnt_nil]⟩
    rw [impl_checkedHeap_L4, if_neg (by simp [len_def])]
    simp [cnt_nil]
  · intro n k hk ih g ws hg hws
    obtain ⟨x, hx, hxm⟩ := at_lt hk
    rw [impl_checkedHeap_L4, if_pos (by simp [len_def]; omega), get_lt hx]
    simp only [Option.bind_some]
    rw [liveAt_eq hl (hF x hxm)]
    simp only [Option.bind_some]
    rw [w_id (n := (k : Int) + 1) (by omega) (by omega), show ((k : Int) + 1) = ((k + 1 : Nat) : Int) from rfl]
    cases hlv : liveW h x
    · simp only [Bool.false_eq_true, if_false, Option.bind_some]
      have e : (rowOf h.length fun j => ((g j + cnt h (c.fields.drop k) j : Nat) : Int)) = rowOf h.length fun j => ((g j + cnt h (c.fields.drop (k + 1)) j : Nat) : Int) := rowOf_congr fun j _ => by
        rw [cnt_drop hx, hits_not hlv]; simp
      rw [e]
      obtain ⟨ps, h1, h2, h3, h4⟩ := ih g ws hg (by omega)
      refine ⟨ps, h1, h2, by omega, fun j => ?_⟩
      rw [h4 j, cnt_drop hx, hits_not hlv]; simp
    · obtain ⟨q, c', h1, h2, h3, _⟩ := liveW_spec hlv
      have e1 : x - 1000 = (q : Int) := by omega
      have hq : cnt h (c.fields.drop k) q = 1 + cnt h (c.fields.drop (k + 1)) q := by rw [cnt_drop hx, hits_at hlv, h2]; simp
      have hne : ∀ j, ¬ j = q → cnt h (c.fields.drop k) j = cnt h (c.fields.drop (k + 1)) j := fun j e => by
        have e' : ¬ q = j := fun h => e h.symm
        rw [cnt_drop hx, hits_at hlv, h2]; simp [e']
      have hcb := cnt_le h (c.fields.drop (k + 1)) q
      have hcl : (c.fields.drop (k + 1)).length ≤ c.fields.length := by simp
      have hgq := hg q
      simp only [if_true]
      rw [w_id (n := x - 1000) (by omega) (by omega), e1, get_lt (rowOf_get h3)]
      simp only [Option.bind_some]
      rw [w_id (n := ((g q + cnt h (c.fields.drop k) q : Nat) : Int) - 1) (by omega) (by omega), put_nat, rowOf_set]
      have er : (rowOf h.length fun j => if j = q then ((g q + cnt h (c.fields.drop k) q : Nat) : Int) - 1 else ((g j + cnt h (c.fields.drop k) j : Nat) : Int)) = rowOf h.length fun j => ((g j + cnt h (c.fields.drop (k + 1)) j : Nat) : Int) := rowOf_congr fun j _ => by
        by_cases e : j = q
        · subst e; simp only [if_true]; omega
        · simp only [e, if_false]; rw [hne j e]
      rw [er, get_lt (rowOf_get h3)]
      simp only [Option.bind_some]
      by_cases hz : g q + cnt h (c.fields.drop (k + 1)) q = 0
      · have ez : decide (((g q + cnt h (c.fields.drop (k + 1)) q : Nat) : Int) = 0) = true := by simp; omega
        rw [if_pos ez, app_ok _ _ _ (by simp [nats]; omega) (by simp [nats]; omega)]
        simp only [Option.bind_some]
        have en : nats ws ++ [(q : Int)] = nats (ws ++ [q]) := by simp [nats]
        rw [en]
        obtain ⟨ps, f1, f2, f3, f4⟩ := ih g (ws ++ [q]) hg (by simp; omega)
        refine ⟨q :: ps, by rw [f1]; simp, List.nodup_cons.2 ⟨fun hm => ?_, f2⟩, by simp; omega, fun j => ?_⟩
        · have := (f4 q).1 hm; omega
        · rw [List.mem_cons, f4 j]
          by_cases e : j = q
          · subst e; rw [hq]; constructor
            · intro _; omega
            · intro _; exact .inl rfl
          · rw [hne j e]; simp [e]
      · have ez : decide (((g q + cnt h (c.fields.drop (k + 1)) q : Nat) : Int) = 0) = false := by simp; omega
        rw [if_neg (by rw [ez]; simp)]
        simp only [Option.bind_some]
        obtain ⟨ps, f1, f2, f3, f4⟩ := ih g ws hg (by omega)
        refine ⟨ps, f1, f2, by omega, fun j => ?_⟩
        rw [f4 j]
        by_cases e : j = q
        · subst e; rw [hq]; constructor
          · rintro ⟨a, b⟩; exact ⟨a, by omega⟩
          · rintro ⟨a, b⟩; exact ⟨a, by omega⟩
        · rw [hne j e]

/-- What is known of what was taken away, and of the list of what may be. -/
structure KI (h : List Cell) (p : Nat → Bool) (ws : List Nat) (many : Nat) : Prop where
  nd : ws.Nodup
  mem : ∀ x ∈ ws, x < h.length ∧ p x = false ∧ un h p x = 0
  all : ∀ j, j < h.length → un h p j = 0 → p j = true ∨ j ∈ ws
  num : cntB p h.length = many
  tm : ∃ tm : Nat → Nat, (∀ j, j < h.length → p j = true → tm j < many) ∧ ∀ i j, ch h i j → p j = true → p i = true ∧ tm i < tm j

theorem nodup_len {ws : List Nat} {n : Nat} (hnd : ws.Nodup) (hm : ∀ x ∈ ws, x < n) : ws.length ≤ n := by
  induction n generalizing ws with
  | zero =>
    cases ws with
    | nil => simp
    | cons x r => have := hm x (by simp); omega
  | succ n ih =>
    by_cases h : n ∈ ws
    · have h1 := ih (hnd.erase n) fun x hx => by
        obtain ⟨h2, h3⟩ := hnd.mem_erase_iff.1 hx
        have := hm x h3; omega
      rw [List.length_erase_of_mem h] at h1; omega
    · have := ih hnd fun x hx => by
        have h1 := hm x hx
        have h2 : ¬ x = n := fun e => h (e ▸ hx)
        omega
      omega

theorem un_ch {h : List Cell} {p : Nat → Bool} {j i : Nat} (hu : un h p j = 0) (hc : ch h i j) : p i = true := by
  obtain ⟨c, w, h1, h2, h3, h4⟩ := hc
  cases hp : p i with
  | true => rfl
  | false =>
    have := unTo_zero.1 hu i (List.getElem?_eq_some_iff.1 h1).1 hp
    rw [fl_eq h1] at this
    have := (cnt_pos (j := j) h1).2 ⟨c, w, h1, h2, h3, h4⟩
    omega

theorem KI.step {h : List Cell} {p : Nat → Bool} {ws ps : List Nat} {many x : Nat} {c : Cell} (hK : KI h p (ws ++ [x]) many) (hc : h[x]? = some c) (hps : ps.Nodup)
    (hmem : ∀ j, j ∈ ps ↔ un h (fun k => if k = x then true else p k) j = 0 ∧ 0 < cnt h c.fields j) : KI h (fun k => if k = x then true else p k) (ws ++ ps) (many + 1) := by
  obtain ⟨hx1, hx2, hx3⟩ := hK.mem x (by simp)
  obtain ⟨tm, t1, t2⟩ := hK.tm
  have hset : ∀ j, un h p j = un h (fun k => if k = x then true else p k) j + cnt h c.fields j := fun j => by
    have := unTo_set (h := h) (j := j) hx1 hx2
    rwa [fl_eq hc] at this
  have hnd := hK.nd
  rw [List.nodup_append] at hnd
  obtain ⟨hnd1, _, hnd3⟩ := hnd
  have hfresh : ∀ j ∈ ps, j < h.length ∧ ¬ j = x ∧ p j = false ∧ 0 < un h p j := fun j hj => by
    obtain ⟨h1, h2⟩ := (hmem j).1 hj
    have hch := (cnt_pos hc).1 h2
    have hpos : 0 < un h p j := by have := hset j; omega
    have hjx : ¬ j = x := fun e => by subst e; omega
    refine ⟨(ch_lt hch).2, hjx, ?_, hpos⟩
    cases hp : p j with
    | false => rfl
    | true => have := (t2 x j hch hp).1; rw [hx2] at this; cases this
  refine ⟨?_, fun y hy => ?_, fun j hj hu => ?_, by rw [cntB_set hx1 hx2, hK.num], ⟨fun k => if k = x then many else tm k, fun j hj hp => ?_, fun i j hij hp => ?_⟩⟩
  · rw [List.nodup_append]
    refine ⟨hnd1, hps, fun a ha b hb e => ?_⟩
    subst e
    have h1 := (hK.mem a (by simp [ha])).2.2
    have h2 := (hfresh a hb).2.2.2
    omega
  · rcases List.mem_append.1 hy with hy | hy
    · obtain ⟨h1, h2, h3⟩ := hK.mem y (by simp [hy])
      have hyx : ¬ y = x := fun e => hnd3 y hy x (by simp) e
      have := hset y
      exact ⟨h1, by simp [hyx, h2], by omega⟩
    · obtain ⟨h1, h2, h3, _⟩ := hfresh y hy
      exact ⟨h1, by simp [h2, h3], ((hmem y).1 hy).1⟩
  · by_cases hjx : j = x
    · left; simp [hjx]
    · have hs := hset j
      rcases Nat.eq_zero_or_pos (cnt h c.fields j) with h0 | h0
      · rcases hK.all j hj (by omega) with h1 | h1
        · left; simp [hjx, h1]
        · right
          rcases List.mem_append.1 h1 with h2 | h2
          · exact List.mem_append.2 (.inl h2)
          · simp at h2; exact absurd h2 hjx
      · right; exact List.mem_append.2 (.inr ((hmem j).2 ⟨hu, h0⟩))
  · by_cases hjx : j = x
    · simp [hjx]
    · simp only [hjx, if_false] at hp ⊢
      have := t1 j hj hp; omega
  · by_cases hjx : j = x
    · subst hjx
      have hpi := un_ch hx3 hij
      have hix : ¬ i = j := fun e => by subst e; rw [hx2] at hpi; cases hpi
      simp only [hix, if_false, if_true]
      exact ⟨hpi, t1 i (ch_lt hij).1 hpi⟩
    · simp only [hjx, if_false] at hp
      obtain ⟨h1, h2⟩ := t2 i j hij hp
      have hix : ¬ i = x := fun e => by subst e; rw [hx2] at h1; cases h1
      simp only [hix, hjx, if_false]
      exact ⟨h1, h2⟩

theorem chk_L3_eq {h : List Cell} (H : Hp h) {M : Nat} (hM : 9000000 ≤ M) : ∀ (d N : Nat) (p : Nat → Bool) (ws : List Nat) (many : Nat), KI h p ws many → h.length - many = d → d < N →
    ∃ p' many', impl_checkedHeap_L3 M h N (many : Int) (rowOf h.length fun j => ((un h p j : Nat) : Int)) (nats ws) = some ((many' : Nat) : Int) ∧ KI h p' [] many' := by
  have hl := H.len
  intro d
  induction d with
  | zero =>
    intro N p ws many hK hd hN
    obtain ⟨n, rfl⟩ : ∃ n, N = n + 1 := ⟨N - 1, by omega⟩
    have hmany : many = h.length := by have := cntB_le p h.length; have := hK.num; omega
    have hws : ws = [] := by
      cases ws with
      | nil => rfl
      | cons x r =>
        obtain ⟨h1, h2, _⟩ := hK.mem x (by simp)
        have := cntB_full.1 (hK.num.trans hmany) x h1
        rw [h2] at this; cases this
    subst hws
    exact ⟨p, many, by rw [impl_checkedHeap_L3, if_neg (by simp [len_def, nats])], hK⟩
  | succ d ih =>
    intro N p ws many hK hd hN
    obtain ⟨n, rfl⟩ : ∃ n, N = n + 1 := ⟨N - 1, by omega⟩
    have hmany : many ≤ h.length := by have := cntB_le p h.length; have := hK.num; omega
    rcases List.eq_nil_or_concat ws with rfl | ⟨ws, x, rfl⟩
    · exact ⟨p, many, by rw [impl_checkedHeap_L3, if_neg (by simp [len_def, nats])], hK⟩
    · rw [List.concat_eq_append] at hK ⊢
      obtain ⟨hx1, hx2, hx3⟩ := hK.mem x (by simp)
      obtain ⟨c, hc, hcm⟩ := at_lt hx1
      have hwl := nodup_len hK.nd (fun y hy => (hK.mem y hy).1)
      rw [List.length_append, List.length_singleton] at hwl
      have elen : Sh.w (Sh.len (nats (ws ++ [x])) - 1) = (ws.length : Int) := by
        rw [len_def]
        have : (nats (ws ++ [x])).length = ws.length + 1 := by simp [nats]
        rw [this, w_id (by omega) (by omega)]; omega
      have eget : Sh.get (nats (ws ++ [x])) (ws.length : Int) = some (x : Int) := by
        rw [get_nat]; simp [nats]
      have ehi : Sh.hi (nats (ws ++ [x])) (ws.length : Int) = some (nats ws) := by
        rw [hi_ok (by simp [nats])]
        congr 1
        simp [nats]
      rw [impl_checkedHeap_L3, if_pos (by simp [len_def, nats]), elen, eget]
      simp only [Option.bind_some]
      rw [get_lt hc, ehi]
      simp only [Option.bind_some]
      have hun : ∀ j, un h p j = un h (fun k => if k = x then true else p k) j + cnt h c.fields j := fun j => by
        have := unTo_set (h := h) (j := j) hx1 hx2
        rwa [fl_eq hc] at this
      have hfs := H.size
      obtain ⟨ps, f1, f2, f3, f4⟩ := chk_L4_eq hl (H.flen hcm) (H.cells c hcm).fields (Nat.zero_le _) (by have := H.flen hcm; omega : c.fields.length - 0 < M) (fun j => un h (fun k => if k = x then true else p k) j) ws
        (fun j => by have := un_le h (fun k => if k = x then true else p k) j; unfold hsize at hfs; omega) (by omega)
      rw [show ((0 : Nat) : Int) = 0 from rfl, List.drop_zero] at f1
      have er : (rowOf h.length fun j => ((un h p j : Nat) : Int)) = rowOf h.length fun j => ((un h (fun k => if k = x then true else p k) j + cnt h c.fields j : Nat) : Int) := rowOf_congr fun j _ => by rw [hun j]
      rw [er, f1]
      simp only [Option.bind_some]
      have ew : Sh.w ((many : Int) + 1) = ((many + 1 : Nat) : Int) := by rw [w_id (by omega) (by omega)]; rfl
      rw [ew]
      have hK' := hK.step hc f2 (by rw [List.drop_zero] at f4; exact f4)
      exact ih n _ _ (many + 1) hK' (by omega) (by omega)

theorem bound_of (rk : Nat → Nat) (n : Nat) : ∃ B, ∀ j, j < n → rk j ≤ B := by
  induction n with
  | zero => exact ⟨0, fun j hj => by omega⟩
  | succ n ih =>
    obtain ⟨B, hB⟩ := ih
    refine ⟨max B (rk n), fun j hj => ?_⟩
    rcases Nat.lt_succ_iff_lt_or_eq.1 hj with h1 | rfl
    · have := hB j h1; omega
    · omega

theorem ranked_of_taken {h : List Cell} {p : Nat → Bool} {many : Nat} (hK : KI h p [] many) : many = h.length ↔ Ranked h := by
  obtain ⟨tm, t1, t2⟩ := hK.tm
  constructor
  · intro e
    have hall := cntB_full.1 (hK.num.trans e)
    refine ⟨fun k => h.length - tm k, fun i j hij => ?_⟩
    obtain ⟨hi, hj⟩ := ch_lt hij
    obtain ⟨_, h2⟩ := t2 i j hij (hall j hj)
    have := t1 j hj (hall j hj)
    show h.length - tm j < h.length - tm i
    omega
  · rintro ⟨rk, hr⟩
    rw [← hK.num]
    obtain ⟨B, hB⟩ := bound_of rk h.length
    refine cntB_full.2 fun j hj => ?_
    have key : ∀ d j, j < h.length → B - rk j < d → p j = true := by
      intro d
      induction d with
      | zero => intro j _ h4; omega
      | succ d ih =>
        intro j hj hlt
        cases hp : p j with
        | true => rfl
        | false =>
          have hu : ¬ un h p j = 0 := fun e => by
            rcases hK.all j hj e with h1 | h1
            · rw [hp] at h1; cases h1
            · simp at h1
          have : ∃ i, i < h.length ∧ p i = false ∧ ¬ cnt h (fl h i) j = 0 := by
            refine Classical.byContradiction fun hno => hu (unTo_zero.2 fun i hi hpi => ?_)
            refine Classical.byContradiction fun hne => hno ⟨i, hi, hpi, hne⟩
          obtain ⟨i, hi, hpi, hne⟩ := this
          obtain ⟨c, hc, _⟩ := at_lt hi
          rw [fl_eq hc] at hne
          have hch := (cnt_pos (j := j) hc).1 (by omega)
          have h5 := hr i j hch
          have h6 := hB i hi
          have := ih i hi (by omega)
          rw [hpi] at this; cases this
    exact key (B - rk j + 1) j hj (by omega)
end RC

namespace RC
open Go

/-! ### A heap is valid: both ways say the same -/

def lastFree (h : List Cell) : Bool := match h[h.length - 1]? with | some c => decide (c.count = 0) | none => false

structure VH (h : List Cell) : Prop where
  last : lastFree h = false
  cells : ∀ c ∈ h, cellS h c = true
  counts : ∀ j, j < h.length → okS h j = true
  ranked : Ranked h

theorem last_eq {h : List Cell} (hl : h.length ≤ 2097160) : (if (decide (0 < (Sh.len h))) = true then Option.bind (Sh.get h (Sh.w ((Sh.len h) - 1))) fun c => some (decide (c.count = 0)) else some false) = some (lastFree h) := by
  rw [len_def]
  unfold lastFree
  by_cases h0 : h.length = 0
  · have : h = [] := List.eq_nil_of_length_eq_zero h0
    subst this; rfl
  · obtain ⟨c, hc, _⟩ := at_lt (l := h) (i := h.length - 1) (by omega)
    rw [if_pos (by simp; omega), w_id (by omega) (by omega), show ((h.length : Int) - 1) = ((h.length - 1 : Nat) : Int) by omega, get_lt hc, hc]
    rfl

theorem wf_of {h : List Cell} (hc : ∀ c ∈ h, cellI h c = true) : WF h := fun c hcm w hw => by
  have := hc c hcm
  unfold cellI at this
  simp only [Bool.and_eq_true] at this
  have h2 := List.all_eq_true.1 this.2 w hw
  simp only [Bool.and_eq_true] at h2
  exact h2.1
theorem cellS_I {h : List Cell} {c : Cell} (hc : cellS h c = true) : cellI h c = true ∧ c.count ≤ 999999 := by
  rw [cellS_eq, Bool.and_eq_true, decide_eq_true_eq] at hc; exact hc
theorem VH.wf {h : List Cell} (H : VH h) : WF h := wf_of fun c hc => (cellS_I (H.cells c hc)).1

theorem valid_L1_eq {h : List Cell} (H : Hp h) {M : Nat} (hM : 9000000 ≤ M) {N i : Nat} (hi : i ≤ h.length) (hN : h.length - i < N) : spec_validHeap_L1 M h N i = some (if (h.drop i).all (cellS h) then Sum.inr () else Sum.inl false) := by
  have hl := H.len
  refine loop_ind h.length (fun N i => spec_validHeap_L1 M h N i = some (if (h.drop i).all (cellS h) then Sum.inr () else Sum.inl false)) ?_ ?_ hi hN
  · intro n
    rw [spec_validHeap_L1, if_neg (by simp [len_def])]; simp
  · intro n i hi ih
    obtain ⟨c, hc, hcm⟩ := at_lt hi
    rw [spec_validHeap_L1, if_pos (by simp [len_def]; omega), get_lt hc]
    simp only [Option.bind_some]
    rw [validCell_eq hl (H.flen hcm) (H.cells c hcm).fields hM, w_id (by omega) (by omega), show ((i : Int) + 1) = ((i + 1 : Nat) : Int) from rfl, ih, all_drop hc]
    cases cellS h c <;> simp

theorem spec_valid {h : List Cell} (H : Hp h) {N : Nat} (hN : 9000000 ≤ N) : ∃ b, spec_validHeap N h = some b ∧ (b = true ↔ VH h) := by
  have hl := H.len
  unfold spec_validHeap
  rw [last_eq hl]
  simp only [Option.bind_some]
  cases h1 : lastFree h with
  | true => exact ⟨false, by simp, (by simp; intro hv; rw [hv.last] at h1; cases h1)⟩
  | false =>
    have e1 := valid_L1_eq H hN (Nat.zero_le _) (by omega : h.length - 0 < N)
    rw [show ((0 : Nat) : Int) = 0 from rfl, List.drop_zero] at e1
    simp only [Bool.false_eq_true, if_false]
    rw [e1, refsOf_eq H hN]
    cases h2 : h.all (cellS h) with
    | false =>
      refine ⟨false, by simp, ?_⟩
      simp only [Bool.false_eq_true, false_iff]
      intro hv
      have := List.all_eq_true.2 hv.cells
      rw [h2] at this; cases this
    | true =>
      have hcells := List.all_eq_true.1 h2
      simp only [if_true, Sh.cont_inr, Option.bind_some]
      have e2 := valid_L2_eq hl (Nat.zero_le _) (by omega : h.length - 0 < N)
      rw [show ((0 : Nat) : Int) = 0 from rfl] at e2
      rw [e2]
      cases h3 : allF (okS h) h.length 0 with
      | false =>
        refine ⟨false, by simp, ?_⟩
        simp only [Bool.false_eq_true, false_iff]
        intro hv
        have := (allF_iff (p := okS h) (Nat.zero_le _)).2 fun j _ hj => hv.counts j hj
        rw [h3] at this; cases this
      | true =>
        have hcnt := (allF_iff (p := okS h) (Nat.zero_le _)).1 h3
        obtain ⟨b, f1, f2⟩ := isAcyclic_eq H (wf_of fun c hc => (cellS_I (hcells c hc)).1) hN
        simp only [if_true, Sh.cont_inr]
        rw [f1]
        exact ⟨b, rfl, f2.trans ⟨fun hr => ⟨h1, hcells, fun j hj => hcnt j (Nat.zero_le _) hj, hr⟩, fun hv => hv.ranked⟩⟩

theorem spec_ValidHeap_eq {h : List Cell} (H : Hp h) {N : Nat} (hN : 9000000 ≤ N) : ∃ b, spec_ValidHeap N h = some b ∧ (b = true ↔ VH h) := by
  obtain ⟨b, h1, h2⟩ := spec_valid H hN
  exact ⟨b, by unfold spec_ValidHeap; rw [h1]; rfl, h2⟩

theorem okI_eq {h : List Cell} {j : Nat} {c : Cell} (hc : h[j]? = some c) : okI h j = true ↔ okS h j = true ∧ (0 < c.count → c.count ≤ 999999) := by
  unfold okI okS
  rw [hc]
  by_cases h1 : 0 < c.count <;> by_cases h2 : c.count < tot h h j <;> by_cases h3 : 999999 < c.count <;> simp [h1, h2, h3] <;> omega

theorem clone_eq (l : List Int) (hl : l.length ≤ 2097160) : slices_Clone_int_int l = some l := by
  unfold slices_Clone_int_int
  rw [app_ok _ _ _ (by simp; omega) (by simp; omega)]; rfl

theorem checked_eq {h : List Cell} (H : Hp h) {N : Nat} (hN : 9000000 ≤ N) : ∃ r b, impl_checkedHeap N h = some (r, b) ∧ (b = true ↔ VH h) ∧ (b = true → r = refs h) := by
  have hl := H.len
  unfold impl_checkedHeap
  rw [last_eq hl, len_def, mk_ok _ h.length 8 (by omega) (by omega), rowOf_const]
  simp only [Option.bind_some]
  have e1 := chk_L1_eq H hN (Nat.zero_le _) (by omega : h.length - 0 < N) (fun _ => 0) (fun j => ⟨by omega, by
    have h1 := tot_le h (h.drop 0) j
    have h2 := fsum_drop_le h 0
    have h3 := H.size
    unfold hsize at h3; omega⟩)
  rw [show ((0 : Nat) : Int) = 0 from rfl, List.drop_zero] at e1
  rw [e1]
  have er : (rowOf h.length fun j => (0 : Int) + (tot h h j : Int)) = refs h := rowOf_congr fun j _ => by omega
  rw [er]
  cases h2 : h.all (cellI h) with
  | false =>
    refine ⟨[], false, by simp, ?_, by simp⟩
    simp only [Bool.false_eq_true, false_iff]
    intro hv
    have := List.all_eq_true.2 fun c hc => (cellS_I (hv.cells c hc)).1
    rw [h2] at this; cases this
  | true =>
    have hcells := List.all_eq_true.1 h2
    simp only [if_true, Sh.cont_inr]
    cases h1 : lastFree h with
    | true => exact ⟨[], false, by simp, (by simp; intro hv; rw [hv.last] at h1; cases h1), by simp⟩
    | false =>
      have hrl : (refs h).length = h.length := rowOf_len
      simp only [Bool.false_eq_true, if_false]
      rw [clone_eq _ (by omega)]
      have e2 := chk_L2_eq hl (Nat.zero_le _) (by omega : h.length - 0 < N) [] (by simp)
      rw [show ((0 : Nat) : Int) = 0 from rfl, List.nil_append, show nats [] = [] from rfl] at e2
      rw [e2]
      simp only [Option.bind_some]
      cases h3 : allF (okI h) h.length 0 with
      | false =>
        refine ⟨[], false, by simp, ?_, by simp⟩
        simp only [Bool.false_eq_true, false_iff]
        intro hv
        have := (allF_iff (p := okI h) (Nat.zero_le _)).2 fun j _ hj => by
          obtain ⟨c, hc, hcm⟩ := at_lt hj
          exact (okI_eq hc).2 ⟨hv.counts j hj, fun _ => (cellS_I (hv.cells c hcm)).2⟩
        rw [h3] at this; cases this
      | true =>
        have hcnt := (allF_iff (p := okI h) (Nat.zero_le _)).1 h3
        simp only [if_true, Sh.cont_inr]
        have hr0 : refs h = rowOf h.length fun j => ((un h (fun _ => false) j : Nat) : Int) := rowOf_congr fun j _ => by rw [un_none]
        have hK0 : KI h (fun _ => false) (zeros h 0) 0 := by
          have hz : ∀ x, x ∈ zeros h 0 ↔ x < h.length ∧ tot h h x = 0 := fun x => by
            unfold zeros
            rw [List.mem_filter, List.mem_range']
            simp
          refine ⟨?_, fun x hx => ?_, fun j hj hu => ?_, ?_, ⟨fun _ => 0, fun _ _ h => (by cases h), fun _ _ _ h => (by cases h)⟩⟩
          · exact List.Nodup.sublist List.filter_sublist List.nodup_range'
          · obtain ⟨h4, h5⟩ := (hz x).1 hx
            exact ⟨h4, rfl, by rw [un_none]; exact h5⟩
          · rw [un_none] at hu
            exact .inr ((hz j).2 ⟨hj, hu⟩)
          · have : ∀ n, cntB (fun _ => false) n = 0 := fun n => by induction n with
              | zero => rfl
              | succ n ih => rw [cntB_succ, ih]; rfl
            exact this _
        obtain ⟨p', many', f1, f2⟩ := chk_L3_eq H hN h.length N _ _ 0 hK0 (by omega) (by omega)
        rw [show ((0 : Nat) : Int) = 0 from rfl, ← hr0] at f1
        rw [f1]
        refine ⟨refs h, _, rfl, ?_, fun _ => rfl⟩
        rw [decide_eq_true_eq]
        have hm : ((many' : Nat) : Int) = (h.length : Int) ↔ many' = h.length := by omega
        rw [hm, ranked_of_taken f2]
        constructor
        · intro hr
          refine ⟨h1, fun c hc => ?_, fun j hj => ?_, hr⟩
          · rw [cellS_eq, hcells c hc, Bool.true_and, decide_eq_true_eq]
            obtain ⟨j, hj⟩ := List.mem_iff_getElem?.1 hc
            by_cases h4 : 0 < c.count
            · exact ((okI_eq hj).1 (hcnt j (Nat.zero_le _) (List.getElem?_eq_some_iff.1 hj).1)).2 h4
            · omega
          · obtain ⟨c, hc, _⟩ := at_lt hj
            exact ((okI_eq hc).1 (hcnt j (Nat.zero_le _) hj)).1
        · exact fun hv => hv.ranked

theorem bool_of {b b' : Bool} {p : Prop} (h1 : b = true ↔ p) (h2 : b' = true ↔ p) : b = b' := by
  cases b <;> cases b' <;> simp at h1 h2 <;> first | rfl | exact absurd h2 h1 | exact absurd h1 h2

theorem valid_both {h : List Cell} (H : Hp h) {N : Nat} (hN : 9000000 ≤ N) : ∃ b r, spec_validHeap N h = some b ∧ spec_ValidHeap N h = some b ∧ impl_checkedHeap N h = some (r, b) ∧ impl_ValidHeap N h = some b ∧ (b = true ↔ VH h) ∧ (b = true → r = refs h) := by
  obtain ⟨b, h1, h2⟩ := spec_valid H hN
  obtain ⟨r, b', h3, h4, h5⟩ := checked_eq H hN
  obtain rfl := bool_of h2 h4
  exact ⟨b, r, h1, by unfold spec_ValidHeap; rw [h1]; rfl, h3, by unfold impl_ValidHeap; rw [h3]; rfl, h2, h5⟩

theorem Hp.of {h : List Cell} (H : HeapIn h) (hs : hsize h ≤ 2097160) : Hp h := ⟨hs, H.1⟩

end RC

/- What is marked, and what is held, in plain lists. -/
namespace RC
open Go

def ramp : Nat → Nat → List Int
  | _, 0 => []
  | k, n + 1 => (k : Int) :: ramp (k + 1) n
theorem ramp_len : ∀ (n k : Nat), (ramp k n).length = n
  | 0, _ => rfl
  | n + 1, k => by simp [ramp, ramp_len n]

theorem get_mid {α : Type} (A B : List α) (x : α) : Sh.get (A ++ x :: B) (A.length : Int) = some x := get_lt (by simp)
theorem put_mid {α : Type} (A B : List α) (x y : α) : Sh.put (A ++ x :: B) (A.length : Int) y = A ++ y :: B := by rw [put_nat]; simp

theorem markIntS_L1_eq : ∀ (B A : List Int) (k n : Nat), B.length < n → A.length + B.length ≤ 9000000 → k + B.length ≤ 100000000 →
    laws_markIntS_L1 n (k : Int) (A.length : Int) (A ++ B) = some (((k + B.length : Nat) : Int), A ++ ramp k B.length)
  | [], A, k, n, hn, _, _ => by
    obtain ⟨n, rfl⟩ : ∃ m, n = m + 1 := ⟨n - 1, by simp at hn; omega⟩
    rw [laws_markIntS_L1, if_neg (by simp [len_def])]; simp [ramp]
  | b :: B, A, k, n, hn, h1, h2 => by
    simp only [List.length_cons] at hn h1 h2 ⊢
    obtain ⟨n, rfl⟩ : ∃ m, n = m + 1 := ⟨n - 1, by omega⟩
    have ih := markIntS_L1_eq B (A ++ [(k : Int)]) (k + 1) n (by omega) (by simp; omega) (by omega)
    rw [laws_markIntS_L1, if_pos (by simp [len_def]; omega), get_mid, put_mid, w_id (by omega) (by omega), w_id (by omega) (by omega)]
    simp only [Option.bind_some]
    rw [List.length_append, List.append_assoc, List.append_assoc] at ih
    simp only [List.length_cons, List.length_nil, List.cons_append, List.nil_append] at ih
    have e1 : ((A.length : Int) + 1) = ((A.length + (0 + 1) : Nat) : Int) := by omega
    have e2 : ((k : Int) + 1) = ((k + 1 : Nat) : Int) := by omega
    rw [e1, e2, ih]
    simp only [ramp, show k + 1 + B.length = k + (B.length + 1) by omega]

theorem markIntS_eq {l : List Int} (hl : l.length ≤ 2097160) {k : Nat} (hk : k ≤ 50000000) {N : Nat} (hN : 9000000 ≤ N) : laws_markIntS N l (k : Int) = some (((k + l.length : Nat) : Int), ramp k l.length) := by
  unfold laws_markIntS
  have := markIntS_L1_eq l [] k N (by omega) (by simp; omega) (by omega)
  rw [List.length_nil, List.nil_append, List.nil_append] at this
  rw [show (0 : Int) = ((0 : Nat) : Int) from rfl, this]; rfl

theorem heldIntS_L1_eq : ∀ (m : Nat) (A : List Int) (k n : Nat), m < n → A.length + m ≤ 9000000 → k + m ≤ 100000000 →
    laws_heldIntS_L1 (A ++ ramp k m) n (k : Int) (A.length : Int) = some (Sum.inr (((k + m : Nat) : Int)))
  | 0, A, k, n, hn, _, _ => by
    obtain ⟨n, rfl⟩ : ∃ m, n = m + 1 := ⟨n - 1, by omega⟩
    rw [laws_heldIntS_L1, if_neg (by simp [len_def, ramp])]; simp
  | m + 1, A, k, n, hn, h1, h2 => by
    obtain ⟨n, rfl⟩ : ∃ m, n = m + 1 := ⟨n - 1, by omega⟩
    have ih := heldIntS_L1_eq m (A ++ [(k : Int)]) (k + 1) n (by omega) (by simp; omega) (by omega)
    rw [laws_heldIntS_L1, if_pos (by simp [len_def, ramp_len]; omega)]
    simp only [ramp]
    rw [get_mid, w_id (by omega) (by omega), w_id (by omega) (by omega)]
    simp only [Option.bind_some, decide_true, Bool.not_true, Bool.false_eq_true, if_false]
    rw [List.length_append, List.append_assoc] at ih
    simp only [List.length_cons, List.length_nil, List.cons_append, List.nil_append] at ih
    have e1 : ((A.length : Int) + 1) = ((A.length + (0 + 1) : Nat) : Int) := by omega
    have e2 : ((k : Int) + 1) = ((k + 1 : Nat) : Int) := by omega
    rw [e1, e2, ih]
    simp only [show k + 1 + m = k + (m + 1) by omega]

theorem heldIntS_eq {m : Nat} (hl : m ≤ 2097160) {k : Nat} (hk : k ≤ 50000000) {N : Nat} (hN : 9000000 ≤ N) : laws_heldIntS N (ramp k m) (k : Int) = some (((k + m : Nat) : Int)) := by
  unfold laws_heldIntS
  have := heldIntS_L1_eq m [] k N (by omega) (by simp; omega) (by omega)
  rw [List.length_nil, List.nil_append] at this
  rw [show (0 : Int) = ((0 : Nat) : Int) from rfl, this]; rfl

/-! ### Cells -/
def csz (h : List Cell) : Nat := 2 * h.length + fsum h
def markC : Nat → List Cell → List Cell
  | _, [] => []
  | k, c :: r => ⟨(k : Int), ((k + 1 : Nat) : Int), ramp (k + 2) c.fields.length⟩ :: markC (k + 2 + c.fields.length) r
theorem csz_cons (c : Cell) (r : List Cell) : csz (c :: r) = 2 + c.fields.length + csz r := by simp [csz, fsum]; omega
theorem markC_len : ∀ (h : List Cell) (k : Nat), (markC k h).length = h.length
  | [], _ => rfl
  | c :: r, k => by simp [markC, markC_len r]

theorem markCellS_L1_eq {N : Nat} (hN : 9000000 ≤ N) : ∀ (B A : List Cell) (k n : Nat), B.length < n → A.length + B.length ≤ 9000000 → (∀ c ∈ B, c.fields.length ≤ 2097160) → k + csz B ≤ 40000000 →
    laws_markCellS_L1 N n (k : Int) (A.length : Int) (A ++ B) = some (((k + csz B : Nat) : Int), A ++ markC k B)
  | [], A, k, n, hn, _, _, _ => by
    obtain ⟨n, rfl⟩ : ∃ m, n = m + 1 := ⟨n - 1, by simp at hn; omega⟩
    rw [laws_markCellS_L1, if_neg (by simp [len_def])]; simp [markC, csz, fsum]
  | c :: B, A, k, n, hn, h1, hf, h2 => by
    have hfc := hf c (by simp)
    rw [csz_cons] at h2 ⊢
    simp only [List.length_cons] at hn h1
    obtain ⟨n, rfl⟩ : ∃ m, n = m + 1 := ⟨n - 1, by omega⟩
    have ih := markCellS_L1_eq hN B (A ++ [⟨(k : Int), ((k + 1 : Nat) : Int), ramp (k + 2) c.fields.length⟩]) (k + 2 + c.fields.length) n (by omega) (by simp; omega) (fun c hc => hf c (by simp [hc])) (by omega)
    have e2 : ((k : Int) + 1) = ((k + 1 : Nat) : Int) := by omega
    have e3 : (((k + 1 : Nat) : Int) + 1) = ((k + 2 : Nat) : Int) := by omega
    rw [laws_markCellS_L1, if_pos (by simp [len_def]; omega), get_mid]
    simp only [Option.bind_some, put_mid, get_mid]
    rw [w_id (n := (k : Int) + 1) (by omega) (by omega), e2, w_id (n := ((k + 1 : Nat) : Int) + 1) (by omega) (by omega), e3, markIntS_eq hfc (by omega) hN]
    simp only [Option.bind_some]
    rw [w_id (by omega) (by omega)]
    rw [List.length_append, List.append_assoc, List.append_assoc] at ih
    simp only [List.length_cons, List.length_nil, List.cons_append, List.nil_append] at ih
    have e1 : ((A.length : Int) + 1) = ((A.length + (0 + 1) : Nat) : Int) := by omega
    rw [e1, ih]
    simp only [markC, show k + 2 + c.fields.length + csz B = k + (2 + c.fields.length + csz B) by omega]

theorem csz_le {h : List Cell} (H : Hp h) : csz h ≤ 4194330 := by have := H.size; unfold hsize at this; unfold csz; omega
theorem markCellS_eq {h : List Cell} (H : Hp h) {k : Nat} (hk : k ≤ 30000000) {N : Nat} (hN : 9000000 ≤ N) : laws_markCellS N h (k : Int) = some (((k + csz h : Nat) : Int), markC k h) := by
  unfold laws_markCellS
  have hl := H.len
  have := markCellS_L1_eq hN h [] k N (by omega) (by simp; omega) (fun c hc => H.flen hc) (by have := csz_le H; omega)
  rw [List.length_nil, List.nil_append, List.nil_append] at this
  rw [show (0 : Int) = ((0 : Nat) : Int) from rfl, this]; rfl
end RC

namespace RC
open Go

/-! ### How often a cell is pointed to; how many cells are live -/

def refAt (h : List Cell) (at_ : Int) : Int := match h[at_.toNat]? with | some c => if 0 ≤ at_ ∧ 1 ≤ c.count then (tot h h at_.toNat : Int) else -1 | none => -1

theorem RefsOf_both {h : List Cell} (H : Hp h) (k : Int) {N : Nat} (hN : 9000000 ≤ N) : ∃ v, spec_RefsOf N h k = some v ∧ impl_RefsOf N h k = some v ∧ (VH h → v = refAt h k) ∧ (¬ VH h → v = -1) := by
  have hl := H.len
  obtain ⟨b, r, h1, _, h2, _, h3, h4⟩ := valid_both H hN
  unfold spec_RefsOf impl_RefsOf
  rw [h1, h2]
  simp only [Option.bind_some, len_def]
  cases b with
  | false => exact ⟨-1, by simp, by simp, fun hv => (by have := h3.2 hv; cases this), fun _ => rfl⟩
  | true =>
    obtain rfl := h4 rfl
    have hv := h3.1 rfl
    rw [inRange_eq, w_id (by omega) (by omega), refsOf_eq H hN]
    simp only [Option.bind_some]
    by_cases k1 : k < 0
    · have e : (decide (0 ≤ k) && decide (k ≤ (h.length : Int) - 1)) = false := by simp; omega
      refine ⟨-1, by rw [e]; simp, by simp [k1], fun _ => ?_, fun hn => absurd hv hn⟩
      unfold refAt
      split
      · rw [if_neg (by omega)]
      · rfl
    · by_cases k2 : (h.length : Int) ≤ k
      · have e : (decide (0 ≤ k) && decide (k ≤ (h.length : Int) - 1)) = false := by simp; omega
        refine ⟨-1, by rw [e]; simp, by simp [k1, k2], fun _ => ?_, fun hn => absurd hv hn⟩
        unfold refAt
        rw [List.getElem?_eq_none (by omega)]
      · have e : (decide (0 ≤ k) && decide (k ≤ (h.length : Int) - 1)) = true := by simp; omega
        obtain ⟨q, rfl⟩ := Int.eq_ofNat_of_zero_le (by omega : 0 ≤ k)
        obtain ⟨c, hc, _⟩ := at_lt (l := h) (i := q) (by omega)
        have hr : Sh.get (refs h) (q : Int) = some (tot h h q : Int) := get_lt (rowOf_get (by omega))
        rw [e, get_lt hc, hr]
        have hq0 : ¬ ((q : Int) < 0) := by omega
        have hra : refAt h (q : Int) = if 1 ≤ c.count then (tot h h q : Int) else -1 := by
          unfold refAt
          simp [hc]
        by_cases k3 : c.count < 1
        · have k4 : ¬ 1 ≤ c.count := by omega
          exact ⟨-1, by simp [k3], by simp [hq0, k2, k3], fun _ => by rw [hra, if_neg k4], fun hn => absurd hv hn⟩
        · have k4 : 1 ≤ c.count := by omega
          exact ⟨(tot h h q : Int), by simp [k3], by simp [hq0, k2, k3], fun _ => by rw [hra, if_pos k4], fun hn => absurd hv hn⟩

def live (h : List Cell) : Nat := h.countP fun c => decide (0 < c.count)
theorem live_drop {h : List Cell} {i : Nat} {c : Cell} (hc : h[i]? = some c) : live (h.drop i) = (if 0 < c.count then 1 else 0) + live (h.drop (i + 1)) := by
  unfold live; rw [drop_cons hc, List.countP_cons]; simp only [decide_eq_true_eq]; omega
theorem live_le (h : List Cell) : live h ≤ h.length := List.countP_le_length

theorem specLive_L1 {h : List Cell} (hl : h.length ≤ 2097160) {N i : Nat} (hi : i ≤ h.length) (hN : h.length - i < N) : ∀ k : Nat, k ≤ i → spec_liveCells_L1 h N (k : Int) i = some (((k + live (h.drop i) : Nat) : Int)) := by
  refine loop_ind h.length (fun N i => ∀ k : Nat, k ≤ i → spec_liveCells_L1 h N (k : Int) i = some (((k + live (h.drop i) : Nat) : Int))) ?_ ?_ hi hN
  · intro n k _
    rw [spec_liveCells_L1, if_neg (by simp [len_def])]; simp [live]
  · intro n i hi ih k hk
    obtain ⟨c, hc, _⟩ := at_lt hi
    rw [spec_liveCells_L1, if_pos (by simp [len_def]; omega), get_lt hc]
    simp only [Option.bind_some]
    rw [w_id (n := (i : Int) + 1) (by omega) (by omega), show ((i : Int) + 1) = ((i + 1 : Nat) : Int) from rfl, w_id (n := (k : Int) + 1) (by omega) (by omega), show ((k : Int) + 1) = ((k + 1 : Nat) : Int) from rfl, live_drop hc]
    by_cases h1 : 0 < c.count
    · rw [if_pos (by simpa using h1), if_pos h1, Option.bind_some, ih (k + 1) (by omega), Nat.add_assoc]
    · rw [if_neg (by simpa using h1), if_neg h1, Option.bind_some, ih k (by omega), Nat.zero_add]
theorem implLive_L1 {h : List Cell} (hl : h.length ≤ 2097160) {N i : Nat} (hi : i ≤ h.length) (hN : h.length - i < N) : ∀ k : Nat, k ≤ i → impl_liveCells_L1 h N (k : Int) i = some (((k + live (h.drop i) : Nat) : Int)) := by
  refine loop_ind h.length (fun N i => ∀ k : Nat, k ≤ i → impl_liveCells_L1 h N (k : Int) i = some (((k + live (h.drop i) : Nat) : Int))) ?_ ?_ hi hN
  · intro n k _
    rw [impl_liveCells_L1, if_neg (by simp [len_def])]; simp [live]
  · intro n i hi ih k hk
    obtain ⟨c, hc, _⟩ := at_lt hi
    rw [impl_liveCells_L1, if_pos (by simp [len_def]; omega), get_lt hc]
    simp only [Option.bind_some]
    rw [w_id (n := (i : Int) + 1) (by omega) (by omega), show ((i : Int) + 1) = ((i + 1 : Nat) : Int) from rfl, w_id (n := (k : Int) + 1) (by omega) (by omega), show ((k : Int) + 1) = ((k + 1 : Nat) : Int) from rfl, live_drop hc]
    by_cases h1 : 0 < c.count
    · rw [if_pos (by simpa using h1), if_pos h1, Option.bind_some, ih (k + 1) (by omega), Nat.add_assoc]
    · rw [if_neg (by simpa using h1), if_neg h1, Option.bind_some, ih k (by omega), Nat.zero_add]

theorem LiveCells_both {h : List Cell} (H : Hp h) {N : Nat} (hN : 9000000 ≤ N) : ∃ v, spec_LiveCells N h = some v ∧ impl_LiveCells N h = some v ∧ (VH h → v = live h) ∧ (¬ VH h → v = -1) := by
  have hl := H.len
  obtain ⟨b, r, h1, _, _, h2, h3, _⟩ := valid_both H hN
  unfold spec_LiveCells impl_LiveCells spec_liveCells impl_liveCells
  rw [h1, h2]
  have e1 := specLive_L1 hl (Nat.zero_le _) (by omega : h.length - 0 < N) 0 (Nat.le_refl _)
  have e2 := implLive_L1 hl (Nat.zero_le _) (by omega : h.length - 0 < N) 0 (Nat.le_refl _)
  rw [show ((0 : Nat) : Int) = 0 from rfl, List.drop_zero, Nat.zero_add] at e1 e2
  rw [e1, e2]
  cases b with
  | false => exact ⟨-1, by simp, by simp, fun hv => (by have := h3.2 hv; cases this), fun _ => rfl⟩
  | true => exact ⟨(live h : Int), by simp, by simp, fun _ => rfl, fun hn => absurd (h3.1 rfl) hn⟩

end RC

/- Plain functions that give something: a calculus. -/
namespace RC
open Go

/-- It gives something, of which this holds. -/
def Tot {α : Type} (x : Option α) (Q : α → Prop) : Prop := ∃ v, x = some v ∧ Q v
theorem Tot.some {α : Type} {v : α} {Q : α → Prop} (h : Q v) : Tot (some v) Q := ⟨v, rfl, h⟩
theorem Tot.of {α : Type} {x : Option α} {v : α} {Q : α → Prop} (e : x = Option.some v) (h : Q v) : Tot x Q := ⟨v, e, h⟩
theorem Tot.mono {α : Type} {x : Option α} {Q R : α → Prop} (h : Tot x Q) (g : ∀ v, Q v → R v) : Tot x R :=
  let ⟨v, e, q⟩ := h; ⟨v, e, g v q⟩
theorem Tot.bind {α β : Type} {x : Option α} {f : α → Option β} {R : α → Prop} {Q : β → Prop} (h : Tot x R) (k : ∀ v, R v → Tot (f v) Q) : Tot (Option.bind x f) Q := by
  obtain ⟨v, rfl, hv⟩ := h; exact k v hv
theorem Tot.bindE {α β : Type} {x : Option α} {f : α → Option β} {v : α} {Q : β → Prop} (h : x = Option.some v) (k : Tot (f v) Q) : Tot (Option.bind x f) Q := by
  subst h; exact k
theorem Tot.ite {α : Type} {b : Bool} {x y : Option α} {Q : α → Prop} (h1 : b = true → Tot x Q) (h2 : b = false → Tot y Q) : Tot (if b = true then x else y) Q := by
  cases b
  · exact h2 rfl
  · exact h1 rfl
theorem Tot.iteD {α : Type} {p : Prop} [Decidable p] {x y : Option α} {Q : α → Prop} (h1 : p → Tot x Q) (h2 : ¬ p → Tot y Q) : Tot (if decide p = true then x else y) Q := by
  by_cases h : p
  · rw [if_pos (by simpa using h)]; exact h1 h
  · rw [if_neg (by simpa using h)]; exact h2 h
theorem Tot.cont {ρ σ β : Type} {o : Option (ρ ⊕ σ)} {g : ρ → β} {f : σ → Option β} {R : ρ → Prop} {S : σ → Prop} {Q : β → Prop} (h : Tot o fun v => match v with | .inl r => R r | .inr s => S s) (h1 : ∀ r, R r → Q (g r)) (h2 : ∀ s, S s → Tot (f s) Q) : Tot (Sh.cont o g f) Q := by
  obtain ⟨v, rfl, hv⟩ := h
  cases v with
  | inl r => exact ⟨g r, rfl, h1 r hv⟩
  | inr s => exact h2 s hv

theorem Tot.get {α β : Type} {l : List α} {j : Int} {f : α → Option β} {Q : β → Prop} (h0 : 0 ≤ j) (h1 : j < l.length) (k : ∀ x, l[j.toNat]? = Option.some x → x ∈ l → Tot (f x) Q) : Tot (Option.bind (Sh.get l j) f) Q := by
  obtain ⟨x, e, hx⟩ := get_pos h0 h1
  exact Tot.bindE e (k x hx (List.mem_of_getElem? hx))
theorem Tot.app {α β : Type} {l m : List α} {b : Nat} {f : List α → Option β} {Q : β → Prop} (h : (l.length + m.length) * b ≤ 140737488355328) (h2 : l.length + m.length ≤ 9223372036854775807) (k : Tot (f (l ++ m)) Q) : Tot (Option.bind (Sh.app l m b) f) Q := Tot.bindE (app_ok l m b h h2) k

theorem wk_id {n : Int} (h1 : -9223372036854775808 ≤ n) (h2 : n ≤ 9223372036854775807) : Sh.wk .i64 n = n := Abs.wrap_i64 h1 h2

/-- What is xored of what is not negative is not negative. -/
theorem xor_nn {a b : Int} (ha : 0 ≤ a) (ha' : a < 4611686018427387904) (hb : 0 ≤ b) (hb' : b < 4611686018427387904) : 0 ≤ Sh.xor a b ∧ Sh.xor a b < 4611686018427387904 := by
  obtain ⟨x, rfl⟩ := Int.eq_ofNat_of_zero_le ha
  obtain ⟨y, rfl⟩ := Int.eq_ofNat_of_zero_le hb
  have e : Sh.xor (x : Int) (y : Int) = ((x ^^^ y : Nat) : Int) := by
    unfold Sh.xor
    have h1 : (BitVec.ofInt 64 (x : Int) ^^^ BitVec.ofInt 64 (y : Int)).toNat = x ^^^ y := by
      rw [BitVec.toNat_xor]
      simp only [BitVec.ofInt_natCast, BitVec.toNat_ofNat]
      rw [Nat.mod_eq_of_lt (by omega), Nat.mod_eq_of_lt (by omega)]
    rw [h1]
    have h2 : x ^^^ y < 2 ^ 62 := Nat.xor_lt_two_pow (by omega) (by omega)
    exact Abs.wrap_i64 (by omega) (by omega)
  have h2 : x ^^^ y < 2 ^ 62 := Nat.xor_lt_two_pow (by omega) (by omega)
  rw [e]; omega
end RC

/- Heaps as functions of the places; copies; what is left of a heap without the free cells at its end. -/
namespace RC
open Go

def cat (h : List Cell) (j : Nat) : Cell := (h[j]?).getD ⟨0, 0, []⟩
def ct (h : List Cell) (j : Nat) : Int := (cat h j).count
theorem cat_of {h : List Cell} {j : Nat} {c : Cell} (hc : h[j]? = some c) : cat h j = c := by simp [cat, hc]
theorem cat_lt {h : List Cell} {j : Nat} (hj : j < h.length) : h[j]? = some (cat h j) := by
  obtain ⟨c, hc, _⟩ := at_lt hj
  rw [cat_of hc]; exact hc
theorem cat_ge {h : List Cell} {j : Nat} (hj : h.length ≤ j) : cat h j = ⟨0, 0, []⟩ := by simp [cat, List.getElem?_eq_none hj]
theorem cat_mem {h : List Cell} {j : Nat} (hj : j < h.length) : cat h j ∈ h := List.mem_of_getElem? (cat_lt hj)
theorem ct_lt {h : List Cell} {j : Nat} (hj : ct h j ≠ 0) : j < h.length := by
  by_cases h0 : j < h.length
  · exact h0
  · exact absurd (by unfold ct; rw [cat_ge (by omega)]) hj
theorem fl_cat (h : List Cell) (j : Nat) : fl h j = (cat h j).fields := by
  unfold fl cat; cases h[j]? <;> rfl
theorem rowOf_cat (h : List Cell) : rowOf h.length (cat h) = h := by
  apply List.ext_getElem?
  intro k
  by_cases hk : k < h.length
  · rw [rowOf_get hk, cat_lt hk]
  · rw [List.getElem?_eq_none (by rw [rowOf_len]; omega), List.getElem?_eq_none (by omega)]
theorem cat_rowOf {n : Nat} {f : Nat → Cell} {j : Nat} (hj : j < n) : cat (rowOf n f) j = f j := cat_of (rowOf_get hj)

/-! ### How often words point to a place -/

def pc (ws : List Int) (j : Nat) : Nat := ws.countP fun w => decide (w = 1000 + (j : Int))
theorem pc_nil (j : Nat) : pc [] j = 0 := rfl
theorem pc_append (a b : List Int) (j : Nat) : pc (a ++ b) j = pc a j + pc b j := by simp [pc, List.countP_append]
theorem pc_one (w : Int) (j : Nat) : pc [w] j = if w = 1000 + (j : Int) then 1 else 0 := by simp [pc, List.countP_cons]
theorem pc_cons (w : Int) (ws : List Int) (j : Nat) : pc (w :: ws) j = (if w = 1000 + (j : Int) then 1 else 0) + pc ws j := by
  rw [show w :: ws = [w] ++ ws from rfl, pc_append, pc_one]
theorem pc_pos {ws : List Int} {j : Nat} : 0 < pc ws j ↔ (1000 + (j : Int)) ∈ ws := by
  unfold pc
  rw [List.countP_pos_iff]
  constructor
  · rintro ⟨w, h1, h2⟩
    rw [decide_eq_true_eq] at h2; subst h2; exact h1
  · intro h; exact ⟨_, h, by simp⟩

/-- How often the marked cells point to a place. -/
def inn (h : List Cell) (p : Nat → Bool) (j : Nat) : Nat → Nat
  | 0 => 0
  | n + 1 => inn h p j n + if p n then pc (fl h n) j else 0
abbrev inA (h : List Cell) (j : Nat) : Nat := inn h (fun _ => true) j h.length
abbrev inF (h : List Cell) (p : Nat → Bool) (j : Nat) : Nat := inn h p j h.length

theorem inn_congr {h g : List Cell} {p q : Nat → Bool} {j n : Nat} (e : ∀ i, i < n → (if p i then pc (fl h i) j else 0) = (if q i then pc (fl g i) j else 0)) : inn h p j n = inn g q j n := by
  induction n with
  | zero => rfl
  | succ n ih => unfold inn; rw [ih fun i hi => e i (by omega), e n (by omega)]
theorem inn_set {h : List Cell} {p : Nat → Bool} {j n x : Nat} (hx : x < n) (hp : p x = false) : inn h (fun k => if k = x then true else p k) j n = inn h p j n + pc (fl h x) j := by
  induction n with
  | zero => omega
  | succ n ih =>
    unfold inn
    by_cases e : x = n
    · subst e
      rw [inn_congr (g := h) (q := p) (n := x) (fun i hi => by
        have : ¬ i = x := by omega
        simp [this])]
      simp [hp]
    · have e' : ¬ n = x := fun h => e h.symm
      rw [ih (by omega)]
      simp only [e', if_false]
      omega
theorem inn_le {h : List Cell} {p q : Nat → Bool} {j n : Nat} (e : ∀ i, i < n → p i = true → q i = true) : inn h p j n ≤ inn h q j n := by
  induction n with
  | zero => exact Nat.le_refl _
  | succ n ih =>
    unfold inn
    have h1 := ih fun i hi => e i (by omega)
    have h2 := e n (by omega)
    cases hp : p n with
    | false => simp; omega
    | true => simp [h2 hp]; omega
theorem inn_add {h : List Cell} {p q : Nat → Bool} {j n : Nat} (e : ∀ i, i < n → p i = true → q i = false) : inn h (fun i => p i || q i) j n = inn h p j n + inn h q j n := by
  induction n with
  | zero => rfl
  | succ n ih =>
    unfold inn
    rw [ih fun i hi => e i (by omega)]
    have h2 := e n (by omega)
    cases hp : p n with
    | false => cases hq : q n <;> simp <;> omega
    | true => simp [h2 hp]; omega
theorem inn_zero {h : List Cell} {p : Nat → Bool} {j n : Nat} (e : ∀ i, i < n → p i = true → pc (fl h i) j = 0) : inn h p j n = 0 := by
  induction n with
  | zero => rfl
  | succ n ih =>
    unfold inn
    rw [ih fun i hi => e i (by omega)]
    cases hp : p n with
    | false => simp
    | true => simp [e n (by omega) hp]
theorem inn_ge {h : List Cell} {p : Nat → Bool} {j n i : Nat} (hi : i < n) (hp : p i = true) : pc (fl h i) j ≤ inn h p j n := by
  induction n with
  | zero => omega
  | succ n ih =>
    unfold inn
    rcases Nat.lt_succ_iff_lt_or_eq.1 hi with h1 | rfl
    · have := ih h1; omega
    · simp [hp]
theorem inn_more {h : List Cell} {p : Nat → Bool} {j n m : Nat} (hn : h.length ≤ n) : inn h p j (n + m) = inn h p j n := by
  induction m with
  | zero => rfl
  | succ m ih =>
    show inn h p j (n + m) + (if p (n + m) then pc (fl h (n + m)) j else 0) = _
    rw [ih, fl_cat, cat_ge (by omega)]
    simp [pc_nil]

theorem liveW_ct {h : List Cell} {j : Nat} : liveW h (1000 + (j : Int)) = decide (0 < ct h j) := by
  unfold liveW ct cat
  rw [show (1000 + (j : Int) - 1000).toNat = j by omega]
  have e : decide ((1000 : Int) ≤ 1000 + (j : Int)) = true := by simp; omega
  rw [e, Bool.true_and]
  cases h[j]? <;> rfl
theorem ptr_eq {w : Int} (hw : 1000 ≤ w) : w = 1000 + (((w - 1000).toNat : Nat) : Int) := by omega
theorem hits_pc {h : List Cell} {j : Nat} {w : Int} : hits h j w = (decide (0 < ct h j) && decide (w = 1000 + (j : Int))) := by
  unfold hits
  by_cases hw : 1000 ≤ w
  · obtain ⟨i, hi⟩ : ∃ i : Nat, w = 1000 + (i : Int) := ⟨_, ptr_eq hw⟩
    subst hi
    rw [liveW_ct, show (1000 + (i : Int) - 1000).toNat = i by omega]
    by_cases e : i = j
    · subst e; simp
    · have e1 : ¬ (1000 + (i : Int) = 1000 + (j : Int)) := by omega
      simp [e, e1]
  · rw [liveW_low hw]
    have e1 : ¬ (w = 1000 + (j : Int)) := by omega
    simp [e1]
theorem cnt_pc (h : List Cell) (ws : List Int) (j : Nat) : cnt h ws j = if 0 < ct h j then pc ws j else 0 := by
  unfold cnt pc
  by_cases hc : 0 < ct h j
  · rw [if_pos hc]
    refine List.countP_congr fun w _ => ?_
    rw [hits_pc]; simp [hc]
  · rw [if_neg hc, List.countP_eq_zero]
    intro w _
    rw [hits_pc]; simp [hc]
theorem tot_inA (h : List Cell) (j : Nat) : tot h h j = if 0 < ct h j then inA h j else 0 := by
  rw [← un_none]
  unfold un
  have key : ∀ n, unTo h (fun _ => false) j n = if 0 < ct h j then inn h (fun _ => true) j n else 0 := by
    intro n
    induction n with
    | zero => simp [unTo, inn]
    | succ n ih =>
      unfold unTo inn
      rw [ih, cnt_pc]
      by_cases hc : 0 < ct h j <;> simp [hc]
  exact key _

/-! ### Copies -/

theorem copyInts_eq {l : List Int} (hl : l.length ≤ 2097160) : spec_copyInts l = some l := by
  unfold spec_copyInts
  rw [app_ok [] l 8 (by simp; omega) (by simp; omega)]; rfl
theorem copyHeap_L1 {h : List Cell} (H : Hp h) {N i : Nat} (hi : i ≤ h.length) (hN : h.length - i < N) : spec_copyHeap_L1 h N i (h.take i) = some h := by
  have hl := H.len
  refine loop_ind h.length (fun N i => spec_copyHeap_L1 h N i (h.take i) = some h) ?_ ?_ hi hN
  · intro n
    rw [spec_copyHeap_L1, if_neg (by simp [len_def]), List.take_length]
  · intro n i hi ih
    obtain ⟨c, hc, hcm⟩ := at_lt hi
    rw [spec_copyHeap_L1, if_pos (by simp [len_def]; omega), get_lt hc]
    simp only [Option.bind_some]
    rw [copyInts_eq (H.flen hcm)]
    simp only [Option.bind_some]
    rw [app_ok _ _ 40 (by simp; omega) (by simp; omega), w_id (by omega) (by omega), show ((i : Int) + 1) = ((i + 1 : Nat) : Int) by omega]
    simp only [Option.bind_some]
    rw [← take_snoc hc]; exact ih
theorem copyHeap_eq {h : List Cell} (H : Hp h) {N : Nat} (hN : 9000000 ≤ N) : spec_copyHeap N h = some h := by
  have hl := H.len
  unfold spec_copyHeap
  have := copyHeap_L1 H (Nat.zero_le _) (by omega : h.length - 0 < N)
  rw [List.take_zero, show ((0 : Nat) : Int) = 0 from rfl] at this
  rw [this]; rfl
theorem cloneHeap_L1 {h : List Cell} (H : Hp h) {N i : Nat} (hi : i ≤ h.length) (hN : h.length - i < N) : impl_cloneHeap_L1 h N i h = some h := by
  have hl := H.len
  refine loop_ind h.length (fun N i => impl_cloneHeap_L1 h N i h = some h) ?_ ?_ hi hN
  · intro n
    rw [impl_cloneHeap_L1, if_neg (by simp [len_def])]
  · intro n i hi ih
    obtain ⟨c, hc, hcm⟩ := at_lt hi
    rw [impl_cloneHeap_L1, if_pos (by simp [len_def]; omega), get_lt hc]
    simp only [Option.bind_some]
    rw [clone_eq _ (H.flen hcm)]
    simp only [Option.bind_some]
    rw [w_id (by omega) (by omega), show ((i : Int) + 1) = ((i + 1 : Nat) : Int) by omega, put_nat]
    have : h.set i ⟨c.count, c.tag, c.fields⟩ = h := by
      apply List.ext_getElem?
      intro k
      rw [List.getElem?_set]
      by_cases e : i = k
      · subst e; rw [if_pos rfl, if_pos hi, hc]
      · rw [if_neg e]
    rw [this]; exact ih
theorem cloneHeap_eq {h : List Cell} (H : Hp h) {N : Nat} (hN : 9000000 ≤ N) : impl_cloneHeap N h = some h := by
  have hl := H.len
  unfold impl_cloneHeap slices_Clone_impl_Cell_impl_Cell
  rw [app_ok [] h 40 (by simp; omega) (by simp; omega)]
  simp only [Option.bind_some, List.nil_append]
  have := cloneHeap_L1 H (Nat.zero_le _) (by omega : h.length - 0 < N)
  rw [show ((0 : Nat) : Int) = 0 from rfl] at this
  rw [this]; rfl

/-! ### Without the free cells at the end -/

def tl (h : List Cell) : Nat → Nat
  | 0 => 0
  | n + 1 => if ct h n = 0 then tl h n else n + 1
def trm (h : List Cell) : List Cell := h.take (tl h h.length)
theorem tl_le (h : List Cell) (n : Nat) : tl h n ≤ n := by
  induction n with
  | zero => exact Nat.le_refl _
  | succ n ih => unfold tl; split <;> omega
theorem tl_free (h : List Cell) (n : Nat) : ∀ j, tl h n ≤ j → j < n → ct h j = 0 := by
  induction n with
  | zero => intro j _ h2; omega
  | succ n ih =>
    unfold tl
    intro j h1 h2
    split at h1
    · rename_i h0
      rcases Nat.lt_succ_iff_lt_or_eq.1 h2 with h3 | rfl
      · exact ih j h1 h3
      · exact h0
    · omega
theorem tl_last (h : List Cell) (n : Nat) : tl h n = 0 ∨ ct h (tl h n - 1) ≠ 0 := by
  induction n with
  | zero => exact .inl rfl
  | succ n ih =>
    unfold tl
    split
    · exact ih
    · rename_i h0
      exact .inr (by simpa using h0)
theorem trm_len (h : List Cell) : (trm h).length = tl h h.length := by
  unfold trm; rw [List.length_take]; have := tl_le h h.length; omega
theorem cat_trm_lt {h : List Cell} {j : Nat} (hj : j < tl h h.length) : cat (trm h) j = cat h j := by
  unfold cat trm
  rw [List.getElem?_take, if_pos hj]
/-- A cell that is free has nothing. -/
def Zr (h : List Cell) : Prop := ∀ j, ct h j = 0 → cat h j = ⟨0, 0, []⟩
theorem cat_trm {h : List Cell} (hz : Zr h) (j : Nat) : cat (trm h) j = cat h j := by
  by_cases hj : j < tl h h.length
  · exact cat_trm_lt hj
  · rw [cat_ge (by rw [trm_len]; omega)]
    by_cases h2 : j < h.length
    · rw [hz j (tl_free h h.length j (by omega) h2)]
    · rw [cat_ge (by omega)]
theorem lastFree_ct (h : List Cell) : lastFree h = false ↔ h.length = 0 ∨ ct h (h.length - 1) ≠ 0 := by
  unfold lastFree ct cat
  by_cases h0 : h.length = 0
  · have : h = [] := List.eq_nil_of_length_eq_zero h0
    subst this; simp
  · obtain ⟨c, hc, _⟩ := at_lt (l := h) (i := h.length - 1) (by omega)
    rw [hc]; simp [h0]
theorem trm_last (h : List Cell) : lastFree (trm h) = false := by
  rw [lastFree_ct, trm_len]
  rcases tl_last h h.length with h1 | h1
  · exact .inl h1
  · by_cases h0 : tl h h.length = 0
    · exact .inl h0
    · refine .inr ?_
      unfold ct at h1 ⊢
      rwa [cat_trm_lt (by omega)]
/-- Heaps that do not end in a free cell and have the same cells are the same. -/
theorem eq_of_cat {h g : List Cell} (h1 : lastFree h = false) (h2 : lastFree g = false) (e : ∀ j, cat h j = cat g j) : h = g := by
  have hlen : h.length = g.length := by
    rw [lastFree_ct] at h1 h2
    have e' : ∀ j, ct h j = ct g j := fun j => by unfold ct; rw [e]
    rcases Nat.lt_trichotomy h.length g.length with h3 | h3 | h3
    · rcases h2 with h2 | h2
      · omega
      · exact absurd (by rw [← e']; unfold ct; rw [cat_ge (by omega)]) h2
    · exact h3
    · rcases h1 with h1 | h1
      · omega
      · exact absurd (by rw [e']; unfold ct; rw [cat_ge (by omega)]) h1
  rw [← rowOf_cat h, ← rowOf_cat g, hlen]
  exact rowOf_congr fun j _ => e j
theorem trm_id {h : List Cell} (hl : lastFree h = false) : trm h = h := by
  unfold trm
  rw [lastFree_ct] at hl
  rcases hl with hl | hl
  · have : h = [] := List.eq_nil_of_length_eq_zero hl
    subst this; rfl
  · have hn0 : h.length ≠ 0 := fun h0 => hl (by unfold ct; rw [cat_ge (by omega)])
    obtain ⟨n, hn⟩ : ∃ n, h.length = n + 1 := ⟨h.length - 1, by omega⟩
    have : tl h h.length = h.length := by
      rw [hn] at hl ⊢
      unfold tl
      rw [if_neg (by simpa using hl)]
    rw [this, List.take_length]

theorem spec_trim_L1_eq {h : List Cell} (hl : h.length ≤ 2097160) : ∀ (n N : Nat), n ≤ h.length → n < N → spec_trim_L1 h N (n : Int) = some ((tl h n : Nat) : Int) := by
  intro n
  induction n with
  | zero =>
    intro N _ hN
    obtain ⟨N', rfl⟩ : ∃ N', N = N' + 1 := ⟨N - 1, by omega⟩
    simp [spec_trim_L1, tl]
  | succ n ih =>
    intro N hn hN
    obtain ⟨N', rfl⟩ : ∃ N', N = N' + 1 := ⟨N - 1, by omega⟩
    rw [spec_trim_L1, if_pos (by simp), w_id (by omega) (by omega), show (((n + 1 : Nat) : Int) - 1) = ((n : Nat) : Int) by omega, get_lt (cat_lt (by omega))]
    simp only [Option.bind_some]
    unfold tl
    by_cases h0 : (cat h n).count = 0
    · rw [if_pos (by simpa using h0), if_pos (show ct h n = 0 from h0)]; exact ih N' (by omega) (by omega)
    · rw [if_neg (by simpa using h0), if_neg (show ¬ ct h n = 0 from h0)]
theorem spec_trim_eq {h : List Cell} (hl : h.length ≤ 2097160) {N : Nat} (hN : 9000000 ≤ N) : spec_trim N h = some (trm h) := by
  unfold spec_trim
  rw [len_def, spec_trim_L1_eq hl _ _ (Nat.le_refl _) (by omega)]
  simp only [Option.bind_some]
  rw [hi_ok (tl_le _ _)]; rfl
theorem impl_trim_L1_eq {h : List Cell} (hl : h.length ≤ 2097160) : ∀ (n N : Nat), n ≤ h.length → n < N → impl_heap_trim_L1 h N (n : Int) = some ((tl h n : Nat) : Int) := by
  intro n
  induction n with
  | zero =>
    intro N _ hN
    obtain ⟨N', rfl⟩ : ∃ N', N = N' + 1 := ⟨N - 1, by omega⟩
    simp [impl_heap_trim_L1, tl]
  | succ n ih =>
    intro N hn hN
    obtain ⟨N', rfl⟩ : ∃ N', N = N' + 1 := ⟨N - 1, by omega⟩
    rw [impl_heap_trim_L1, if_pos (by simp), w_id (by omega) (by omega), show (((n + 1 : Nat) : Int) - 1) = ((n : Nat) : Int) by omega, get_lt (cat_lt (by omega))]
    simp only [Option.bind_some]
    unfold tl
    by_cases h0 : (cat h n).count = 0
    · rw [if_pos (by simpa using h0), if_pos (show ct h n = 0 from h0)]; exact ih N' (by omega) (by omega)
    · rw [if_neg (by simpa using h0), if_neg (show ¬ ct h n = 0 from h0)]
theorem impl_trim_eq {h : List Cell} (hl : h.length ≤ 2097160) {N : Nat} (hN : 9000000 ≤ N) : impl_heap_trim N h = some (trm h) := by
  unfold impl_heap_trim
  rw [len_def, impl_trim_L1_eq hl _ _ (Nat.le_refl _) (by omega)]
  simp only [Option.bind_some]
  rw [hi_ok (tl_le _ _)]; rfl
end RC

/- Words are dropped: what is left, whatever the order. -/
namespace RC
open Go

/-- What is asked of a heap and of the words that are dropped. -/
structure Pre (h : List Cell) (W : List Int) : Prop where
  hp : Hp h
  fields : ∀ i, ∀ w ∈ fl h i, 1000 ≤ w → 0 < ct h (w - 1000).toNat
  words : ∀ w ∈ W, 1000 ≤ w → 0 < ct h (w - 1000).toNat
  wi : ∀ w ∈ W, I64 w
  cnt : ∀ j, 0 < ct h j → ((pc W j + inA h j : Nat) : Int) ≤ ct h j

theorem Hp.ct_I64 {h : List Cell} (H : Hp h) (j : Nat) : I64 (ct h j) := by
  unfold ct
  by_cases hj : j < h.length
  · exact (H.cells _ (cat_mem hj)).count
  · rw [cat_ge (by omega)]; exact ⟨by decide, by decide⟩
theorem Hp.fl_I64 {h : List Cell} (H : Hp h) (j : Nat) : ∀ w ∈ fl h j, I64 w := by
  rw [fl_cat]
  by_cases hj : j < h.length
  · exact (H.cells _ (cat_mem hj)).fields
  · rw [cat_ge (by omega)]; intro w hw; cases hw

/-- How things stand midway: t is still to be dropped, fr is freed, cn is counted. -/
structure DI (h : List Cell) (W t : List Int) (fr : Nat → Bool) (cn : Nat → Int) : Prop where
  cnt : ∀ j, cn j = ct h j - (pc W j : Int) - (inF h fr j : Int) + (pc t j : Int)
  frz : ∀ j, fr j = true ↔ (0 < ct h j ∧ cn j = 0)
  tw : ∀ w ∈ t, 1000 ≤ w → 0 < ct h (w - 1000).toNat
  ti : ∀ w ∈ t, I64 w
  le : ∀ j, cn j ≤ ct h j
  ge : ∀ j, ct h j ≤ 0 → cn j = ct h j

def gg (h : List Cell) (fr : Nat → Bool) (cn : Nat → Int) (j : Nat) : Cell := if fr j then ⟨0, 0, []⟩ else ⟨cn j, (cat h j).tag, (cat h j).fields⟩

theorem DI.start {h : List Cell} {W : List Int} (P : Pre h W) : DI h W W (fun _ => false) (ct h) := by
  refine ⟨fun j => ?_, fun j => ?_, P.words, P.wi, fun j => Int.le_refl _, fun _ _ => rfl⟩
  · rw [show inF h (fun _ => false) j = 0 from inn_zero fun i _ hi => by cases hi]; omega
  · simp; omega
theorem gg_start (h : List Cell) : rowOf h.length (gg h (fun _ => false) (ct h)) = h := by
  refine Eq.trans ?_ (rowOf_cat h)
  refine rowOf_congr fun j _ => ?_
  simp [gg, ct]

theorem DI.int {h : List Cell} {W t : List Int} {w : Int} {fr : Nat → Bool} {cn : Nat → Int} (D : DI h W (t ++ [w]) fr cn) (hw : ¬ 1000 ≤ w) : DI h W t fr cn := by
  refine ⟨fun j => ?_, D.frz, fun v hv => D.tw v (List.mem_append_left _ hv), fun v hv => D.ti v (List.mem_append_left _ hv), D.le, D.ge⟩
  rw [D.cnt j, pc_append, pc_one, if_neg (by omega)]; omega

theorem DI.hit {h : List Cell} {W t : List Int} {w : Int} {fr : Nat → Bool} {cn : Nat → Int} (P : Pre h W) (D : DI h W (t ++ [w]) fr cn) (hw : 1000 ≤ w) :
    0 < ct h (w - 1000).toNat ∧ (w - 1000).toNat < h.length ∧ 1 ≤ cn (w - 1000).toNat ∧ fr (w - 1000).toNat = false := by
  have h1 := D.tw w (by simp) hw
  have h2 := D.cnt (w - 1000).toNat
  have h3 := P.cnt _ h1
  have h4 : inF h fr (w - 1000).toNat ≤ inA h (w - 1000).toNat := inn_le fun _ _ _ => rfl
  have h5 : pc (t ++ [w]) (w - 1000).toNat = pc t (w - 1000).toNat + 1 := by rw [pc_append, pc_one, if_pos (by omega)]
  have h6 : 1 ≤ cn (w - 1000).toNat := by rw [h5] at h2; omega
  refine ⟨h1, ct_lt (by omega), h6, ?_⟩
  cases hf : fr (w - 1000).toNat with
  | false => rfl
  | true => have := ((D.frz _).1 hf).2; omega

theorem DI.dec {h : List Cell} {W t : List Int} {w : Int} {fr : Nat → Bool} {cn : Nat → Int} (P : Pre h W) (D : DI h W (t ++ [w]) fr cn) (hw : 1000 ≤ w) (hc : cn (w - 1000).toNat - 1 ≠ 0) :
    DI h W t fr (fun k => if k = (w - 1000).toNat then cn k - 1 else cn k) := by
  obtain ⟨h1, h2, h3, h4⟩ := D.hit P hw
  refine ⟨fun j => ?_, fun j => ?_, fun v hv => D.tw v (List.mem_append_left _ hv), fun v hv => D.ti v (List.mem_append_left _ hv), fun j => ?_, fun j hj => ?_⟩
  · have := D.cnt j
    rw [pc_append, pc_one] at this
    by_cases e : j = (w - 1000).toNat
    · rw [if_pos (by omega)] at this
      simp only [e, if_true]
      rw [← e]; omega
    · rw [if_neg (by omega)] at this
      simp only [e, if_false]; omega
  · rw [D.frz j]
    by_cases e : j = (w - 1000).toNat
    · simp only [e, if_true]; omega
    · simp only [e, if_false]
  · have := D.le j
    show (if j = (w - 1000).toNat then cn j - 1 else cn j) ≤ _
    split <;> omega
  · have := D.ge j hj
    by_cases e : j = (w - 1000).toNat
    · subst e; omega
    · simp only [e, if_false]; exact this

theorem DI.fre {h : List Cell} {W t : List Int} {w : Int} {fr : Nat → Bool} {cn : Nat → Int} (P : Pre h W) (D : DI h W (t ++ [w]) fr cn) (hw : 1000 ≤ w) (hc : cn (w - 1000).toNat - 1 = 0) :
    DI h W (t ++ fl h (w - 1000).toNat) (fun k => if k = (w - 1000).toNat then true else fr k) (fun k => if k = (w - 1000).toNat then cn k - 1 else cn k) := by
  obtain ⟨h1, h2, h3, h4⟩ := D.hit P hw
  refine ⟨fun j => ?_, fun j => ?_, fun v hv => ?_, fun v hv => ?_, fun j => ?_, fun j hj => ?_⟩
  · have := D.cnt j
    have e1 : inF h (fun k => if k = (w - 1000).toNat then true else fr k) j = inF h fr j + pc (fl h (w - 1000).toNat) j := inn_set h2 h4
    rw [pc_append, pc_one] at this
    rw [e1, pc_append]
    by_cases e : j = (w - 1000).toNat
    · rw [if_pos (by omega)] at this
      simp only [e, if_true]
      rw [← e]; omega
    · rw [if_neg (by omega)] at this
      simp only [e, if_false]; omega
  · by_cases e : j = (w - 1000).toNat
    · subst e; simp only [if_true]; simp; omega
    · simp only [e, if_false]; exact D.frz j
  · rcases List.mem_append.1 hv with hv | hv
    · exact D.tw v (List.mem_append_left _ hv)
    · exact P.fields _ v hv
  · rcases List.mem_append.1 hv with hv | hv
    · exact D.ti v (List.mem_append_left _ hv)
    · exact P.hp.fl_I64 _ v hv
  · have := D.le j
    show (if j = (w - 1000).toNat then cn j - 1 else cn j) ≤ _
    split <;> omega
  · have := D.ge j hj
    by_cases e : j = (w - 1000).toNat
    · subst e; omega
    · simp only [e, if_false]; exact this

/-- How many words the cells hold that are not freed. -/
def rst (h : List Cell) (fr : Nat → Bool) : Nat → Nat
  | 0 => 0
  | n + 1 => rst h fr n + if fr n then 0 else (fl h n).length
theorem rst_congr {h : List Cell} {p q : Nat → Bool} {n : Nat} (e : ∀ i, i < n → p i = q i) : rst h p n = rst h q n := by
  induction n with
  | zero => rfl
  | succ n ih => unfold rst; rw [ih fun i hi => e i (by omega), e n (by omega)]
theorem rst_set {h : List Cell} {p : Nat → Bool} {n x : Nat} (hx : x < n) (hp : p x = false) : rst h p n = rst h (fun k => if k = x then true else p k) n + (fl h x).length := by
  induction n with
  | zero => omega
  | succ n ih =>
    unfold rst
    by_cases e : x = n
    · subst e
      rw [rst_congr (p := fun k => if k = x then true else p k) (q := p) (n := x) (fun i hi => by
        have : ¬ i = x := by omega
        simp [this])]
      simp [hp]
    · have e' : ¬ n = x := fun h => e h.symm
      rw [ih (by omega)]
      simp only [e', if_false]
      omega
theorem rst_le (h : List Cell) (p : Nat → Bool) : rst h p h.length ≤ fsum h := by
  have key : ∀ n, n ≤ h.length → rst h p n ≤ fsum (h.take n) := by
    intro n
    induction n with
    | zero => intro _; simp [rst]
    | succ n ih =>
      intro hn
      have h1 := ih (by omega)
      have hc := cat_lt (h := h) (j := n) (by omega)
      unfold rst
      rw [take_snoc hc, fsum_append, fl_cat]
      have : fsum [cat h n] = (cat h n).fields.length := by simp [fsum]
      split <;> omega
  have := key h.length (Nat.le_refl _)
  rwa [List.take_length] at this

theorem pop_get {t : List Int} {w : Int} (hl : t.length ≤ 16000000) : Sh.get (t ++ [w]) (Sh.w (Sh.len (t ++ [w]) - 1)) = some w := by
  rw [len_def, List.length_append]
  have e : (((t.length + [w].length : Nat) : Int) - 1) = (t.length : Int) := by simp
  rw [e, w_id (by omega) (by omega), get_nat]; simp
theorem pop_hi {t : List Int} {w : Int} (hl : t.length ≤ 16000000) : Sh.hi (t ++ [w]) (Sh.w (Sh.len (t ++ [w]) - 1)) = some t := by
  rw [len_def, List.length_append]
  have e : (((t.length + [w].length : Nat) : Int) - 1) = (t.length : Int) := by simp
  rw [e, w_id (by omega) (by omega), hi_ok (by simp)]; simp
theorem pos_len {t : List Int} {w : Int} : decide (0 < Sh.len (t ++ [w])) = true := by rw [len_def, List.length_append]; simp

theorem gg_at {h : List Cell} {fr : Nat → Bool} {cn : Nat → Int} {w : Int} (hw : 1000 ≤ w) (hwi : I64 w) (hj : (w - 1000).toNat < h.length) (hf : fr (w - 1000).toNat = false) :
    Sh.get (rowOf h.length (gg h fr cn)) (Sh.w (w - 1000)) = some ⟨cn (w - 1000).toNat, (cat h (w - 1000).toNat).tag, (cat h (w - 1000).toNat).fields⟩ := by
  obtain ⟨w1, w2⟩ := hwi
  rw [w_id (by omega) (by omega), get_pos' (by omega), rowOf_get hj]
  simp [gg, hf]
theorem put_row {n : Nat} {f : Nat → Cell} {w : Int} {c : Cell} (hw : 1000 ≤ w) (hwi : I64 w) : Sh.put (rowOf n f) (Sh.w (w - 1000)) c = rowOf n (fun k => if k = (w - 1000).toNat then c else f k) := by
  obtain ⟨w1, w2⟩ := hwi
  rw [w_id (by omega) (by omega)]
  unfold Sh.put; rw [rowOf_set]
theorem get_row {n : Nat} {f : Nat → Cell} {w : Int} (hw : 1000 ≤ w) (hwi : I64 w) (hj : (w - 1000).toNat < n) : Sh.get (rowOf n f) (Sh.w (w - 1000)) = some (f (w - 1000).toNat) := by
  obtain ⟨w1, w2⟩ := hwi
  rw [w_id (by omega) (by omega), get_pos' (by omega), rowOf_get hj]

theorem gg_dec {h : List Cell} {fr : Nat → Bool} {cn : Nat → Int} {x n : Nat} (hf : fr x = false) :
    rowOf n (fun k => if k = x then (⟨cn x - 1, (cat h x).tag, (cat h x).fields⟩ : Cell) else gg h fr cn k) = rowOf n (gg h fr (fun k => if k = x then cn k - 1 else cn k)) :=
  rowOf_congr fun j _ => by
    by_cases e : j = x
    · subst e; simp [gg, hf]
    · simp [gg, e]
theorem gg_fre {h : List Cell} {fr : Nat → Bool} {cn : Nat → Int} {x n : Nat} {c : Cell} :
    rowOf n (fun k => if k = x then (⟨0, 0, []⟩ : Cell) else if k = x then c else gg h fr cn k) = rowOf n (gg h (fun k => if k = x then true else fr k) (fun k => if k = x then cn k - 1 else cn k)) :=
  rowOf_congr fun j _ => by
    by_cases e : j = x
    · subst e; simp [gg]
    · simp [gg, e]

theorem spec_drop_L1 {h : List Cell} {W : List Int} (P : Pre h W) : ∀ (d N : Nat) (t : List Int) (fr : Nat → Bool) (cn : Nat → Int), DI h W t fr cn → t.length + rst h fr h.length ≤ d → d ≤ 9000000 → d < N →
    ∃ fr' cn', DI h W [] fr' cn' ∧ spec_dropWords_L1 N (rowOf h.length (gg h fr cn)) t = some (rowOf h.length (gg h fr' cn')) := by
  intro d
  induction d with
  | zero =>
    intro N t fr cn D hd _ hN
    obtain ⟨N', rfl⟩ : ∃ N', N = N' + 1 := ⟨N - 1, by omega⟩
    have : t = [] := List.eq_nil_of_length_eq_zero (by omega)
    subst this
    exact ⟨fr, cn, D, by rw [spec_dropWords_L1, if_neg (by simp [len_def])]⟩
  | succ d ih =>
    intro N t fr cn D hd hd2 hN
    obtain ⟨N', rfl⟩ : ∃ N', N = N' + 1 := ⟨N - 1, by omega⟩
    rcases List.eq_nil_or_concat t with rfl | ⟨t', w, rfl⟩
    · exact ⟨fr, cn, D, by rw [spec_dropWords_L1, if_neg (by simp [len_def])]⟩
    · rw [List.concat_eq_append] at D hd ⊢
      have hl : t'.length ≤ 16000000 := by rw [List.length_append] at hd; omega
      have hwi := D.ti w (by simp)
      rw [spec_dropWords_L1, if_pos pos_len, pop_get hl, pop_hi hl]
      simp only [Option.bind_some, spec_isPointer]
      by_cases hw : 1000 ≤ w
      · obtain ⟨h1, h2, h3, h4⟩ := D.hit P hw
        have hci := P.hp.ct_I64 (w - 1000).toNat
        have hle := D.le (w - 1000).toNat
        obtain ⟨c1, c2⟩ := hci
        rw [if_pos (by simpa using hw), gg_at hw hwi h2 h4]
        simp only [Option.bind_some]
        rw [put_row hw hwi, w_id (n := cn (w - 1000).toNat - 1) (by omega) (by omega), get_row hw hwi h2]
        simp only [Option.bind_some, if_true]
        by_cases hc : cn (w - 1000).toNat - 1 = 0
        · rw [if_pos (by simpa using hc), app_ok _ _ 8 (by
              have := P.hp.flen (cat_mem h2); omega) (by have := P.hp.flen (cat_mem h2); omega)]
          simp only [Option.bind_some]
          rw [put_row hw hwi, gg_fre, ← fl_cat]
          refine ih N' _ _ _ (D.fre P hw hc) ?_ (by omega) (by omega)
          have := rst_set h2 h4 (h := h)
          rw [List.length_append] at hd ⊢
          simp only [List.length_cons, List.length_nil] at hd
          omega
        · rw [if_neg (by simpa using hc), gg_dec h4]
          refine ih N' _ _ _ (D.dec P hw hc) ?_ (by omega) (by omega)
          rw [List.length_append] at hd
          simp only [List.length_cons, List.length_nil] at hd
          omega
      · rw [if_neg (by simpa using hw)]
        refine ih N' _ _ _ (D.int hw) ?_ (by omega) (by omega)
        rw [List.length_append] at hd
        simp only [List.length_cons, List.length_nil] at hd
        omega

theorem gg_live {h : List Cell} {fr : Nat → Bool} {cn : Nat → Int} {j : Nat} (hj : j < h.length) (hf : fr j = false) : liveW (rowOf h.length (gg h fr cn)) (1000 + (j : Int)) = decide (0 < cn j) := by
  rw [liveW_ct]
  unfold ct
  rw [cat_rowOf hj]; simp [gg, hf]

theorem impl_drop_L1 {h : List Cell} {W : List Int} (P : Pre h W) : ∀ (d N : Nat) (t : List Int) (fr : Nat → Bool) (cn : Nat → Int), DI h W t fr cn → t.length + rst h fr h.length ≤ d → d ≤ 9000000 → d < N →
    ∃ fr' cn', DI h W [] fr' cn' ∧ impl_heap_drop_L1 N (rowOf h.length (gg h fr cn)) t = some (rowOf h.length (gg h fr' cn')) := by
  intro d
  induction d with
  | zero =>
    intro N t fr cn D hd _ hN
    obtain ⟨N', rfl⟩ : ∃ N', N = N' + 1 := ⟨N - 1, by omega⟩
    have : t = [] := List.eq_nil_of_length_eq_zero (by omega)
    subst this
    exact ⟨fr, cn, D, by rw [impl_heap_drop_L1, if_neg (by simp [len_def])]⟩
  | succ d ih =>
    intro N t fr cn D hd hd2 hN
    obtain ⟨N', rfl⟩ : ∃ N', N = N' + 1 := ⟨N - 1, by omega⟩
    rcases List.eq_nil_or_concat t with rfl | ⟨t', w, rfl⟩
    · exact ⟨fr, cn, D, by rw [impl_heap_drop_L1, if_neg (by simp [len_def])]⟩
    · rw [List.concat_eq_append] at D hd ⊢
      have hl : t'.length ≤ 16000000 := by rw [List.length_append] at hd; omega
      have hwi := D.ti w (by simp)
      have hlen := P.hp.len
      rw [impl_heap_drop_L1, if_pos pos_len, pop_get hl, pop_hi hl]
      simp only [Option.bind_some]
      rw [liveAt_eq (by rw [rowOf_len]; exact hlen) hwi]
      simp only [Option.bind_some]
      by_cases hw : 1000 ≤ w
      · obtain ⟨h1, h2, h3, h4⟩ := D.hit P hw
        have hci := P.hp.ct_I64 (w - 1000).toNat
        have hle := D.le (w - 1000).toNat
        obtain ⟨c1, c2⟩ := hci
        have hlv : liveW (rowOf h.length (gg h fr cn)) w = true := by rw [ptr_eq hw, gg_live h2 h4]; simp; omega
        rw [hlv, if_neg (by simp), gg_at hw hwi h2 h4]
        simp only [Option.bind_some]
        rw [put_row hw hwi, w_id (n := cn (w - 1000).toNat - 1) (by omega) (by omega), get_row hw hwi h2]
        simp only [Option.bind_some, if_true]
        by_cases hc : cn (w - 1000).toNat - 1 = 0
        · rw [if_pos (by simpa using hc), app_ok _ _ 8 (by
              have := P.hp.flen (cat_mem h2); omega) (by have := P.hp.flen (cat_mem h2); omega)]
          simp only [Option.bind_some]
          rw [put_row hw hwi, gg_fre, ← fl_cat]
          refine ih N' _ _ _ (D.fre P hw hc) ?_ (by omega) (by omega)
          have := rst_set h2 h4 (h := h)
          rw [List.length_append] at hd ⊢
          simp only [List.length_cons, List.length_nil] at hd
          omega
        · rw [if_neg (by simpa using hc), gg_dec h4]
          refine ih N' _ _ _ (D.dec P hw hc) ?_ (by omega) (by omega)
          rw [List.length_append] at hd
          simp only [List.length_cons, List.length_nil] at hd
          omega
      · rw [liveW_low hw, if_pos (by simp)]
        refine ih N' _ _ _ (D.int hw) ?_ (by omega) (by omega)
        rw [List.length_append] at hd
        simp only [List.length_cons, List.length_nil] at hd
        omega

/-- What is left of a heap when the words are dropped. -/
def Dr (h : List Cell) (W : List Int) (g : List Cell) : Prop := ∃ fr cn, DI h W [] fr cn ∧ g = trm (rowOf h.length (gg h fr cn))

theorem DI.dead {h : List Cell} {W t : List Int} {fr : Nat → Bool} {cn : Nat → Int} (D : DI h W t fr cn) {j : Nat} (hj : ¬ 0 < ct h j) : fr j = false := by
  cases hf : fr j with
  | false => rfl
  | true => exact absurd ((D.frz j).1 hf).1 hj

/-- It is one. -/
theorem DI.unique {h : List Cell} {W : List Int} {fr fr' : Nat → Bool} {cn cn' : Nat → Int} (rk : Nat → Nat) (hrk : ∀ i j, 0 < ct h j → 0 < pc (fl h i) j → rk j < rk i) (D : DI h W [] fr cn) (D' : DI h W [] fr' cn') : ∀ j, fr j = fr' j ∧ cn j = cn' j := by
  obtain ⟨B, hB⟩ := bound_of rk h.length
  have key : ∀ d j, B - rk j = d → j < h.length → fr j = fr' j ∧ cn j = cn' j := by
    intro d
    induction d using Nat.strongRecOn with
    | _ d ih =>
      intro j hd hj
      by_cases hl : 0 < ct h j
      · have e : inF h fr j = inF h fr' j := inn_congr fun i hi => by
          by_cases hp : 0 < pc (fl h i) j
          · have h1 := hrk i j hl hp
            have h2 := hB i hi
            rw [(ih (B - rk i) (by omega) i rfl hi).1]
          · have : pc (fl h i) j = 0 := by omega
            simp [this]
        have hc : cn j = cn' j := by rw [D.cnt, D'.cnt, e]
        refine ⟨?_, hc⟩
        have h1 := D.frz j
        have h2 := D'.frz j
        rw [hc] at h1
        cases hf : fr j <;> cases hf' : fr' j <;> simp_all
      · exact ⟨by rw [D.dead hl, D'.dead hl], by rw [D.ge j (by omega), D'.ge j (by omega)]⟩
  intro j
  by_cases hj : j < h.length
  · exact key _ j rfl hj
  · have h0 : ct h j = 0 := by unfold ct; rw [cat_ge (by omega)]
    exact ⟨by rw [D.dead (by omega), D'.dead (by omega)], by rw [D.ge j (by omega), D'.ge j (by omega)]⟩

theorem Dr.unique {h : List Cell} {W : List Int} {g g' : List Cell} (rk : Nat → Nat) (hrk : ∀ i j, 0 < ct h j → 0 < pc (fl h i) j → rk j < rk i) (D : Dr h W g) (D' : Dr h W g') : g = g' := by
  obtain ⟨fr, cn, h1, rfl⟩ := D
  obtain ⟨fr', cn', h2, rfl⟩ := D'
  have e := h1.unique rk hrk h2
  have e1 : fr = fr' := funext fun j => (e j).1
  have e2 : cn = cn' := funext fun j => (e j).2
  rw [e1, e2]

theorem spec_dropWords_eq {h : List Cell} {W : List Int} (P : Pre h W) (hW : W.length ≤ 900000) {N : Nat} (hN : 9000000 ≤ N) : ∃ g, spec_dropWords N h W = some g ∧ Dr h W g := by
  have hf := rst_le h (fun _ => false)
  have hs := P.hp.size
  unfold hsize at hs
  obtain ⟨fr, cn, D, e⟩ := spec_drop_L1 P (W.length + rst h (fun _ => false) h.length) N W _ _ (DI.start P) (Nat.le_refl _) (by omega) (by omega)
  rw [gg_start] at e
  refine ⟨_, ?_, fr, cn, D, rfl⟩
  unfold spec_dropWords
  rw [copyInts_eq (by omega)]
  simp only [Option.bind_some]
  rw [e]
  simp only [Option.bind_some]
  rw [spec_trim_eq (by rw [rowOf_len]; omega) hN]; rfl

theorem impl_drop_eq {h : List Cell} {w : Int} (P : Pre h [w]) {N : Nat} (hN : 9000000 ≤ N) : ∃ g, impl_heap_drop N h w = some g ∧ Dr h [w] g := by
  have hf := rst_le h (fun _ => false)
  have hs := P.hp.size
  unfold hsize at hs
  obtain ⟨fr, cn, D, e⟩ := impl_drop_L1 P ([w].length + rst h (fun _ => false) h.length) N [w] _ _ (DI.start P) (Nat.le_refl _) (by simp; omega) (by simp; omega)
  rw [gg_start] at e
  refine ⟨_, ?_, fr, cn, D, rfl⟩
  unfold impl_heap_drop
  rw [e]
  simp only [Option.bind_some]
  rw [impl_trim_eq (by rw [rowOf_len]; omega) hN]; rfl
end RC

/- Valid heaps by their places; what a drop leaves is valid; both ways to drop a word. -/
namespace RC
open Go

theorem cellS_iff (h : List Cell) (c : Cell) : cellS h c = true ↔ c.fields.length ≤ 3 ∧ -1 ≤ c.count ∧ c.count ≤ 999999 ∧ (c.count < 1 → c.tag = 0 ∧ (∀ w ∈ c.fields, w = 0) ∧ (c.count < 0 ∨ c.fields = [])) ∧ (1 ≤ c.count → (∀ w ∈ c.fields, wordW h w = true) ∧ 0 ≤ c.tag ∧ c.tag ≤ 99) := by
  unfold cellS zeroB
  by_cases h1 : c.count < 1
  · have h2 : ¬ 1 ≤ c.count := by omega
    simp only [h1, if_true, h2, false_imp_iff, and_true, Bool.and_eq_true, Bool.not_eq_true', Bool.or_eq_false_iff, decide_eq_false_iff_not, decide_eq_true_eq, Bool.or_eq_true, Bool.not_eq_false', List.all_eq_true, forall_const]
    constructor
    · rintro ⟨⟨a, b, d⟩, ⟨e, f⟩, g⟩
      refine ⟨by omega, b, d, e, f, g.imp id fun g => List.eq_nil_of_length_eq_zero (by omega)⟩
    · rintro ⟨a, b, d, e, f, g⟩
      exact ⟨⟨by omega, b, d⟩, ⟨e, f⟩, g.imp id fun g => by simp [g]⟩
  · have h2 : 1 ≤ c.count := by omega
    simp only [h1, if_false, h2, forall_const, false_imp_iff, true_and, Bool.and_eq_true, Bool.not_eq_true', Bool.or_eq_false_iff, decide_eq_false_iff_not, decide_eq_true_eq, Bool.not_eq_false', List.all_eq_true]
    constructor
    · rintro ⟨⟨a, b, d⟩, e, f, g⟩
      exact ⟨by omega, b, d, e, f, g⟩
    · rintro ⟨a, b, d, e, f, g⟩
      exact ⟨⟨by omega, b, d⟩, e, f, g⟩

theorem wordW_ptr {h : List Cell} {w : Int} (hw : 1000 ≤ w) : wordW h w = decide (0 < ct h (w - 1000).toNat) := by
  unfold wordW intW
  have e : decide (w ≤ 999) = false := by simp; omega
  rw [e, Bool.and_false, Bool.or_false]
  have := liveW_ct (h := h) (j := (w - 1000).toNat)
  rwa [← ptr_eq hw] at this
theorem wordW_int {h : List Cell} {w : Int} (hw : ¬ 1000 ≤ w) : wordW h w = decide (-999 ≤ w) := by
  unfold wordW intW
  have e : decide (w ≤ 999) = true := by simp; omega
  rw [liveW_low hw, e, Bool.and_true, Bool.false_or]

theorem VH.cell {h : List Cell} (V : VH h) (j : Nat) : cellS h (cat h j) = true := by
  by_cases hj : j < h.length
  · exact V.cells _ (cat_mem hj)
  · rw [cat_ge (by omega), cellS_iff]; simp
theorem VH.fields {h : List Cell} (V : VH h) : ∀ i, ∀ w ∈ fl h i, 1000 ≤ w → 0 < ct h (w - 1000).toNat := fun i w hw h1 => by
  rw [fl_cat] at hw
  obtain ⟨_, _, _, a, b⟩ := (cellS_iff _ _).1 (V.cell i)
  by_cases hc : (cat h i).count < 1
  · have := (a hc).2.1 w hw; omega
  · have := (b (by omega)).1 w hw
    rw [wordW_ptr h1] at this; simpa using this
theorem VH.zr {h : List Cell} (V : VH h) : Zr h := fun j hj => by
  obtain ⟨_, _, _, a, _⟩ := (cellS_iff _ _).1 (V.cell j)
  unfold ct at hj
  obtain ⟨h1, _, h3⟩ := a (by omega)
  rcases h3 with h3 | h3
  · omega
  · generalize cat h j = c at *
    obtain ⟨c1, c2, c3⟩ := c
    simp only at hj h1 h3
    subst hj; subst h1; subst h3; rfl
theorem VH.cnt {h : List Cell} (V : VH h) {j : Nat} (hj : 0 < ct h j) : (inA h j : Int) ≤ ct h j := by
  have hl : j < h.length := ct_lt (by omega)
  have := V.counts j hl
  unfold okS at this
  rw [cat_lt hl] at this
  simp only at this
  rw [tot_inA, if_pos hj] at this
  have h2 : decide (0 < (cat h j).count) = true := decide_eq_true (show 0 < (cat h j).count from hj)
  rw [h2] at this
  simp at this
  exact this
theorem VH.rk {h : List Cell} (V : VH h) : ∃ rk : Nat → Nat, ∀ i j, 0 < ct h j → 0 < pc (fl h i) j → rk j < rk i := by
  obtain ⟨rk, h1⟩ := V.ranked
  refine ⟨rk, fun i j hj hp => h1 i j ?_⟩
  have hm := pc_pos.1 hp
  have hi : i < h.length := by
    by_cases hi : i < h.length
    · exact hi
    · rw [fl_cat, cat_ge (by omega)] at hm; cases hm
  refine ⟨cat h i, _, cat_lt hi, by rwa [fl_cat] at hm, by rw [liveW_ct]; simpa using hj, by omega⟩
theorem VH.of {h : List Cell} (h1 : lastFree h = false) (h2 : ∀ j, j < h.length → cellS h (cat h j) = true) (h3 : ∀ j, 0 < ct h j → (inA h j : Int) ≤ ct h j) (rk : Nat → Nat) (h4 : ∀ i j, 0 < ct h j → 0 < pc (fl h i) j → rk j < rk i) : VH h := by
  refine ⟨h1, fun c hc => ?_, fun j hj => ?_, rk, fun i j ⟨c, w, a1, a2, a3, a4⟩ => ?_⟩
  · obtain ⟨j, hj⟩ := List.mem_iff_getElem?.1 hc
    have hl := (List.getElem?_eq_some_iff.1 hj).1
    have := h2 j hl
    rwa [cat_of hj] at this
  · unfold okS
    rw [cat_lt hj]
    simp only
    by_cases hc : 0 < ct h j
    · have := h3 j hc
      rw [tot_inA, if_pos hc]
      have e : decide ((cat h j).count < (inA h j : Int)) = false := by simp; exact this
      rw [e]; simp
    · have e : decide (0 < (cat h j).count) = false := by simpa [ct] using hc
      rw [e]; simp
  · obtain ⟨q, c', b1, b2, b3, b4, b5⟩ := liveW_spec a3
    have hq : q = j := by omega
    subst hq
    refine h4 i q (by unfold ct; rw [cat_of b4]; exact b5) (pc_pos.2 ?_)
    rw [fl_cat, cat_of a1, ← b1]; exact a2

theorem Hp.wordI {h : List Cell} {w : Int} (hl : h.length ≤ 2097160) (hw : wordW h w = true) : I64 w := by
  by_cases h1 : 1000 ≤ w
  · rw [wordW_ptr h1] at hw
    have := ct_lt (h := h) (j := (w - 1000).toNat) (by have : 0 < ct h (w - 1000).toNat := (by simpa using hw); omega)
    exact ⟨by omega, by omega⟩
  · rw [wordW_int h1] at hw
    have : -999 ≤ w := by simpa using hw
    exact ⟨by omega, by omega⟩

/-- When words may be dropped. -/
theorem Pre.of {h : List Cell} {W : List Int} (H : Hp h) (V : VH h) (hw : ∀ w ∈ W, wordW h w = true) (hc : ∀ j, 0 < ct h j → ((pc W j + inA h j : Nat) : Int) ≤ ct h j) : Pre h W :=
  ⟨H, V.fields, fun w h1 h2 => by have := hw w h1; rw [wordW_ptr h2] at this; simpa using this, fun w h1 => Hp.wordI H.len (hw w h1), hc⟩

/-! ### What is left -/

theorem gg_ge {h : List Cell} {W t : List Int} {fr : Nat → Bool} {cn : Nat → Int} (D : DI h W t fr cn) {j : Nat} (hj : h.length ≤ j) : gg h fr cn j = ⟨0, 0, []⟩ := by
  have h0 : ct h j = 0 := by unfold ct; rw [cat_ge hj]
  unfold gg
  rw [D.dead (by omega), D.ge j (by omega), h0, cat_ge hj]; rfl
theorem cat_gg {h : List Cell} {W t : List Int} {fr : Nat → Bool} {cn : Nat → Int} (D : DI h W t fr cn) (j : Nat) : cat (rowOf h.length (gg h fr cn)) j = gg h fr cn j := by
  by_cases hj : j < h.length
  · exact cat_rowOf hj
  · rw [cat_ge (by rw [rowOf_len]; omega), gg_ge D (by omega)]
theorem zr_gg {h : List Cell} {W t : List Int} {fr : Nat → Bool} {cn : Nat → Int} (Z : Zr h) (D : DI h W t fr cn) : Zr (rowOf h.length (gg h fr cn)) := fun j hj => by
  unfold ct at hj
  rw [cat_gg D] at hj ⊢
  unfold gg at hj ⊢
  cases hf : fr j with
  | true => rfl
  | false =>
    rw [hf] at hj
    simp only [Bool.false_eq_true, if_false] at hj ⊢
    have h1 : ¬ 0 < ct h j := fun h1 => by have := (D.frz j).2 ⟨h1, hj⟩; rw [hf] at this; cases this
    have h2 := D.ge j (by omega)
    rw [hj] at h2
    have h3 := Z j h2.symm
    rw [hj, h3]
theorem Dr.cat {h g : List Cell} {W : List Int} (Z : Zr h) (D : Dr h W g) : ∃ fr cn, DI h W [] fr cn ∧ (∀ j, cat g j = gg h fr cn j) ∧ lastFree g = false ∧ g.length ≤ h.length := by
  obtain ⟨fr, cn, D, rfl⟩ := D
  refine ⟨fr, cn, D, fun j => ?_, trm_last _, ?_⟩
  · rw [cat_trm (zr_gg Z D), cat_gg D]
  · rw [trm_len]; exact Nat.le_trans (tl_le _ _) (by rw [rowOf_len]; exact Nat.le_refl _)

section
variable {h g : List Cell} {W : List Int} {fr : Nat → Bool} {cn : Nat → Int}

theorem ct_gg (hg : ∀ j, cat g j = gg h fr cn j) (j : Nat) : ct g j = if fr j then 0 else cn j := by
  unfold ct; rw [hg]; unfold gg; cases fr j <;> rfl
theorem fl_gg (hg : ∀ j, cat g j = gg h fr cn j) (j : Nat) : fl g j = if fr j then [] else fl h j := by
  rw [fl_cat, fl_cat, hg]; unfold gg; cases fr j <;> rfl
theorem inA_gg (hg : ∀ j, cat g j = gg h fr cn j) (hl : g.length ≤ h.length) (j : Nat) : inA g j + inF h fr j = inA h j := by
  have e1 : inA g j = inn g (fun _ => true) j h.length := by
    have := inn_more (h := g) (p := fun _ => true) (j := j) (n := g.length) (m := h.length - g.length) (Nat.le_refl _)
    rw [show g.length + (h.length - g.length) = h.length by omega] at this
    exact this.symm
  have e2 : inn g (fun _ => true) j h.length = inn h (fun i => !fr i) j h.length := inn_congr fun i _ => by
    rw [fl_gg hg]
    cases fr i <;> simp [pc_nil]
  have e3 := inn_add (h := h) (p := fun i => !fr i) (q := fr) (j := j) (n := h.length) (fun i _ h1 => by simpa using h1)
  have e4 : inn h (fun i => !fr i || fr i) j h.length = inA h j := inn_congr fun i _ => by cases fr i <;> simp
  rw [e1, e2, ← e4, e3]
theorem cn_pos (P : Pre h W) (D : DI h W [] fr cn) {i j : Nat} (hi : i < h.length) (hf : fr i = false) (hp : 0 < pc (fl h i) j) : 0 < ct h j ∧ 1 ≤ cn j ∧ fr j = false := by
  have hm := pc_pos.1 hp
  have h1 : 0 < ct h j := by
    have := P.fields i _ hm (by omega)
    rwa [show (1000 + (j : Int) - 1000).toNat = j by omega] at this
  have h2 := P.cnt j h1
  have h3 := D.cnt j
  have h4 : inF h (fun k => if k = i then true else fr k) j = inF h fr j + pc (fl h i) j := inn_set hi hf
  have h5 : inF h (fun k => if k = i then true else fr k) j ≤ inA h j := inn_le fun _ _ _ => rfl
  rw [pc_nil] at h3
  have h6 : 1 ≤ cn j := by omega
  refine ⟨h1, h6, ?_⟩
  cases hf' : fr j with
  | false => rfl
  | true => have := ((D.frz j).1 hf').2; omega
theorem cn_nn (P : Pre h W) (D : DI h W [] fr cn) {j : Nat} (hj : 0 < ct h j) : (inA g j : Int) ≥ 0 ∧ (inA h j : Int) - inF h fr j ≤ cn j := by
  have h2 := P.cnt j hj
  have h3 := D.cnt j
  rw [pc_nil] at h3
  exact ⟨by omega, by omega⟩

theorem dr_VH (P : Pre h W) (V : VH h) (D : DI h W [] fr cn) (hg : ∀ j, cat g j = gg h fr cn j) (hl : lastFree g = false) (hlen : g.length ≤ h.length) : VH g := by
  obtain ⟨rk, hrk⟩ := V.rk
  have hct := ct_gg hg
  have hfl := fl_gg hg
  refine VH.of hl (fun j hj => ?_) (fun j hj => ?_) rk fun i j hj hp => ?_
  · rw [cellS_iff, hg]
    unfold gg
    obtain ⟨a1, a2, a3, a4, a5⟩ := (cellS_iff _ _).1 (V.cell j)
    cases hf : fr j with
    | true => simp
    | false =>
      simp only [Bool.false_eq_true, if_false]
      by_cases h1 : 0 < ct h j
      · have h2 := cn_nn (g := g) P D h1
        have h3 := D.le j
        have h4 : cn j ≠ 0 := fun h4 => by have := (D.frz j).2 ⟨h1, h4⟩; rw [hf] at this; cases this
        have h5 : inF h fr j ≤ inA h j := inn_le fun _ _ _ => rfl
        have h6 : 1 ≤ cn j := by omega
        obtain ⟨b1, b2, b3⟩ := a5 (by unfold ct at h1; omega)
        refine ⟨a1, by omega, by unfold ct at h3; omega, fun h => by omega, fun _ => ⟨fun w hw => ?_, b2, b3⟩⟩
        by_cases hw1 : 1000 ≤ w
        · have hp : 0 < pc (fl h j) (w - 1000).toNat := pc_pos.2 (by rw [fl_cat, ← ptr_eq hw1]; exact hw)
          obtain ⟨_, c2, c3⟩ := cn_pos P D (ct_lt (by omega)) hf hp
          rw [wordW_ptr hw1, hct, c3]; simp; omega
        · rw [wordW_int hw1]
          have := b1 w hw
          rwa [wordW_int hw1] at this
      · rw [D.ge j (by omega)]
        refine ⟨a1, a2, a3, a4, fun h => absurd h (by unfold ct at h1 ⊢; omega)⟩
  · rw [hct] at hj ⊢
    cases hf : fr j with
    | true => rw [hf] at hj; simp at hj
    | false =>
      rw [hf] at hj
      simp only [Bool.false_eq_true, if_false] at hj ⊢
      have h1 : 0 < ct h j := by have := D.le j; omega
      have h2 := cn_nn (g := g) P D h1
      have h3 := inA_gg hg hlen j
      omega
  · rw [hfl] at hp
    cases hf : fr i with
    | true => rw [hf] at hp; simp [pc_nil] at hp
    | false =>
      rw [hf] at hp
      simp only [Bool.false_eq_true, if_false] at hp
      have hi : i < h.length := by
        by_cases hi : i < h.length
        · exact hi
        · rw [fl_cat, cat_ge (by omega)] at hp; simp [pc_nil] at hp
      exact hrk i j (cn_pos P D hi hf hp).1 hp
end

theorem Dr.VH {h g : List Cell} {W : List Int} (P : Pre h W) (V : VH h) (D : Dr h W g) : VH g := by
  obtain ⟨fr, cn, D, h1, h2, h3⟩ := D.cat V.zr
  exact dr_VH P V D h1 h2 h3
theorem Dr.same {h g g' : List Cell} {W : List Int} (V : RC.VH h) (D : Dr h W g) (D' : Dr h W g') : g = g' := by
  obtain ⟨rk, hrk⟩ := V.rk
  exact Dr.unique rk hrk D D'
theorem Dr.len {h g : List Cell} {W : List Int} (Z : Zr h) (D : Dr h W g) : g.length ≤ h.length := by
  obtain ⟨_, _, _, _, _, h3⟩ := D.cat Z; exact h3

/-- Integers alone leave the heap as it is. -/
theorem Dr.ints {h : List Cell} {W : List Int} (V : RC.VH h) (hw : ∀ w ∈ W, ¬ 1000 ≤ w) : Dr h W h := by
  refine ⟨fun _ => false, ct h, ⟨fun j => ?_, fun j => ?_, (fun w hw => absurd hw (List.not_mem_nil)), (fun w hw => absurd hw (List.not_mem_nil)), fun j => Int.le_refl _, fun _ _ => rfl⟩, ?_⟩
  · have e0 : inF h (fun _ => false) j = 0 := inn_zero fun i _ hi => absurd hi (by simp)
    have e1 := pc_nil j
    have : pc W j = 0 := by
      unfold pc
      rw [List.countP_eq_zero]
      intro w h1
      have := hw w h1
      simp; omega
    omega
  · simp; omega
  · rw [gg_start, trm_id V.last]

theorem refs_get {h : List Cell} {w : Int} (hw : 1000 ≤ w) (hwi : I64 w) (hj : (w - 1000).toNat < h.length) : Sh.get (refs h) (Sh.w (w - 1000)) = some (tot h h (w - 1000).toNat : Int) := by
  obtain ⟨w1, w2⟩ := hwi
  unfold refs
  rw [w_id (by omega) (by omega), get_pos' (by omega), rowOf_get hj]
theorem cat_get {h : List Cell} {w : Int} (hw : 1000 ≤ w) (hwi : I64 w) (hj : (w - 1000).toNat < h.length) : Sh.get h (Sh.w (w - 1000)) = some (cat h (w - 1000).toNat) := by
  obtain ⟨w1, w2⟩ := hwi
  rw [w_id (by omega) (by omega), get_pos' (by omega), cat_lt hj]

/-- May a word be dropped? -/
def mayDrop (h : List Cell) (w : Int) : Prop := VH h ∧ wordW h w = true ∧ (1000 ≤ w → (inA h (w - 1000).toNat : Int) < ct h (w - 1000).toNat)

theorem mayDrop.pre {h : List Cell} {w : Int} (H : Hp h) (M : mayDrop h w) : Pre h [w] := by
  obtain ⟨V, h1, h2⟩ := M
  refine Pre.of H V (fun v hv => by rw [List.mem_singleton] at hv; subst hv; exact h1) fun j hj => ?_
  rw [pc_one]
  have h3 := V.cnt hj
  split
  · rename_i e
    have h4 := h2 (by omega)
    rw [e, show (1000 + (j : Int) - 1000).toNat = j by omega] at h4
    omega
  · omega

theorem DropWord_both {h : List Cell} {w : Int} (H : Hp h) (hw : I64 w) {N : Nat} (hN : 9000000 ≤ N) : ∃ g b, spec_DropWord N h w = some (g, b) ∧ impl_DropWord N h w = some (g, b) ∧ (b = true ↔ mayDrop h w) ∧ (b = true → Dr h [w] g) ∧ (b = false → g = []) := by
  have hl := H.len
  obtain ⟨b, r, h1, _, h2, _, h3, h4⟩ := valid_both H hN
  unfold spec_DropWord impl_DropWord
  rw [h1, h2]
  simp only [Option.bind_some]
  cases b with
  | false => exact ⟨[], false, by simp, by simp, by simp [mayDrop]; intro hv; exact absurd (h3.2 hv) (by simp), by simp, by simp⟩
  | true =>
    obtain rfl := h4 rfl
    have V := h3.1 rfl
    rw [isWord_eq hl hw, wordValid_eq hl hw]
    simp only [Option.bind_some, Bool.not_true, Bool.false_eq_true, if_false]
    cases hword : wordW h w with
    | false => exact ⟨[], false, by simp, by simp, by simp [mayDrop, hword], by simp, by simp⟩
    | true =>
      simp only [Bool.not_true, Bool.false_eq_true, if_false]
      rw [copyHeap_eq H hN, cloneHeap_eq H hN, liveAt_eq hl hw, refsOf_eq H hN]
      simp only [Option.bind_some, spec_isPointer]
      by_cases hp : 1000 ≤ w
      · have hlv : 0 < ct h (w - 1000).toNat := by have := hword; rw [wordW_ptr hp] at this; simpa using this
        have hj : (w - 1000).toNat < h.length := ct_lt (by omega)
        have hlw : liveW h w = true := by rw [ptr_eq hp, liveW_ct]; simpa using hlv
        rw [if_pos (by simpa using hp), hlw, cat_get hp hw hj, refs_get hp hw hj, tot_inA, if_pos hlv]
        simp only [Option.bind_some, if_true]
        by_cases he : (cat h (w - 1000).toNat).count = (inA h (w - 1000).toNat : Int)
        · refine ⟨[], false, by simp [he], by simp [he], ?_, by simp, by simp⟩
          simp only [Bool.false_eq_true, false_iff]
          intro M
          have := M.2.2 hp
          unfold ct at this; omega
        · have M : mayDrop h w := ⟨V, hword, fun _ => by have := V.cnt hlv; unfold ct at this ⊢; omega⟩
          have P := M.pre H
          obtain ⟨g, e1, D1⟩ := spec_dropWords_eq P (by simp) hN
          obtain ⟨g', e2, D2⟩ := impl_drop_eq P hN
          obtain rfl := D1.same V D2
          refine ⟨g, true, by simp [he, e1], by simp [he, e2], by simp [M], fun _ => D1, by simp⟩
      · have hlw : liveW h w = false := liveW_low hp
        have M : mayDrop h w := ⟨V, hword, fun h1 => absurd h1 hp⟩
        have P := M.pre H
        obtain ⟨g, e1, D1⟩ := spec_dropWords_eq P (by simp) hN
        have e : g = h := D1.same V (Dr.ints V fun v hv => by rw [List.mem_singleton] at hv; subst hv; exact hp)
        subst e
        refine ⟨g, true, ?_, ?_, by simp [M], fun _ => D1, by simp⟩
        · rw [if_neg (by simpa using hp)]; simp [e1]
        · rw [hlw]; simp
end RC

/- A reference more, a cell more: both ways. Comparisons of what is the same. -/
namespace RC
open Go

theorem equalInts_L1_eq {l : List Int} (hl : l.length ≤ 2097160) {N i : Nat} (hi : i ≤ l.length) (hN : l.length - i < N) : laws_equalInts_L1 l l N i = some (Sum.inr ()) := by
  refine loop_ind l.length (fun N i => laws_equalInts_L1 l l N i = some (Sum.inr ())) ?_ ?_ hi hN
  · intro n
    rw [laws_equalInts_L1, if_neg (by simp [len_def])]
  · intro n i hi ih
    obtain ⟨x, hx, _⟩ := at_lt hi
    rw [laws_equalInts_L1, if_pos (by simp [len_def]; omega), get_lt hx]
    simp only [Option.bind_some]
    rw [w_id (by omega) (by omega), show ((i : Int) + 1) = ((i + 1 : Nat) : Int) by omega]
    simpa using ih
theorem equalInts_eq {l : List Int} (hl : l.length ≤ 2097160) {N : Nat} (hN : 9000000 ≤ N) : laws_equalInts N l l = some true := by
  unfold laws_equalInts
  have := equalInts_L1_eq hl (Nat.zero_le _) (by omega : l.length - 0 < N)
  rw [show ((0 : Nat) : Int) = 0 from rfl] at this
  simp [this]
theorem equalCell_eq {c : Cell} (hl : c.fields.length ≤ 2097160) {N : Nat} (hN : 9000000 ≤ N) : laws_equalCell N c c = some true := by
  unfold laws_equalCell
  simp [equalInts_eq hl hN]
theorem equalHeap_L1_eq {h : List Cell} (hl : h.length ≤ 2097160) (hf : ∀ c ∈ h, c.fields.length ≤ 2097160) {M : Nat} (hM : 9000000 ≤ M) {N i : Nat} (hi : i ≤ h.length) (hN : h.length - i < N) : laws_equalHeap_L1 M h h N i = some (Sum.inr ()) := by
  refine loop_ind h.length (fun N i => laws_equalHeap_L1 M h h N i = some (Sum.inr ())) ?_ ?_ hi hN
  · intro n
    rw [laws_equalHeap_L1, if_neg (by simp [len_def])]
  · intro n i hi ih
    obtain ⟨x, hx, hxm⟩ := at_lt hi
    rw [laws_equalHeap_L1, if_pos (by simp [len_def]; omega), get_lt hx]
    simp only [Option.bind_some]
    rw [equalCell_eq (hf x hxm) hM, w_id (by omega) (by omega), show ((i : Int) + 1) = ((i + 1 : Nat) : Int) by omega]
    simpa using ih
theorem equalHeap_eq {h : List Cell} (H : Hp h) {N : Nat} (hN : 9000000 ≤ N) : laws_equalHeap N h h = some true := by
  have hl := H.len
  unfold laws_equalHeap
  have := equalHeap_L1_eq hl (fun c hc => H.flen hc) hN (Nat.zero_le _) (by omega : h.length - 0 < N)
  rw [show ((0 : Nat) : Int) = 0 from rfl] at this
  simp [this]
theorem Hp.nil : Hp [] := ⟨by simp [hsize, fsum], by simp⟩

/-! ### A cell at a place -/

/-- The heap with a cell put at a place. -/
def pt (h : List Cell) (j : Nat) (c : Cell) : List Cell := h.set j c
theorem cat_pt {h : List Cell} {j : Nat} {c : Cell} (hj : j < h.length) (k : Nat) : cat (h.set j c) k = if k = j then c else cat h k := by
  unfold cat
  rw [List.getElem?_set]
  by_cases e : k = j
  · subst e; simp [hj]
  · have e' : ¬ j = k := fun h => e h.symm
    simp [e, e']
theorem cat_app {h : List Cell} {c : Cell} (k : Nat) : cat (h ++ [c]) k = if k = h.length then c else cat h k := by
  unfold cat
  by_cases e : k = h.length
  · subst e; simp
  · rw [if_neg e]
    by_cases h1 : k < h.length
    · rw [List.getElem?_append_left h1]
    · rw [List.getElem?_append_right (by omega), List.getElem?_eq_none (by simp; omega), List.getElem?_eq_none (by omega)]
theorem fsum_set {h : List Cell} {j : Nat} {c : Cell} (hj : j < h.length) : fsum (h.set j c) + (fl h j).length = fsum h + c.fields.length := by
  have e1 : h = h.take j ++ cat h j :: h.drop (j + 1) := by
    have := drop_cons (cat_lt hj)
    rw [← this, List.take_append_drop]
  have e2 : h.set j c = h.take j ++ c :: h.drop (j + 1) := by rw [List.set_eq_take_append_cons_drop, if_pos hj]
  have e3 : fsum h = fsum (h.take j) + ((cat h j).fields.length + fsum (h.drop (j + 1))) := by
    conv => lhs; rw [e1]
    rw [fsum_append]; simp [fsum]
  rw [e2, fsum_append, fl_cat]
  have e4 : fsum (c :: h.drop (j + 1)) = c.fields.length + fsum (h.drop (j + 1)) := by simp [fsum]
  rw [e4]; omega

/-! ### A reference more -/

def dup (h : List Cell) (w : Int) : List Cell := if 1000 ≤ w then h.set (w - 1000).toNat ⟨ct h (w - 1000).toNat + 1, (cat h (w - 1000).toNat).tag, (cat h (w - 1000).toNat).fields⟩ else h
def mayDup (h : List Cell) (w : Int) : Prop := VH h ∧ wordW h w = true ∧ (1000 ≤ w → ct h (w - 1000).toNat ≠ 999999)

theorem DupWord_both {h : List Cell} {w : Int} (H : Hp h) (hw : I64 w) {N : Nat} (hN : 9000000 ≤ N) : ∃ b, spec_DupWord N h w = some (if b then dup h w else [], b) ∧ impl_DupWord N h w = some (if b then dup h w else [], b) ∧ (b = true ↔ mayDup h w) := by
  have hl := H.len
  obtain ⟨b, r, h1, _, _, h2, h3, _⟩ := valid_both H hN
  unfold spec_DupWord impl_DupWord
  rw [h1, h2]
  simp only [Option.bind_some]
  cases b with
  | false => exact ⟨false, by simp, by simp, by simp [mayDup]; intro hv; exact absurd (h3.2 hv) (by simp)⟩
  | true =>
    have V := h3.1 rfl
    rw [isWord_eq hl hw, wordValid_eq hl hw]
    simp only [Option.bind_some, Bool.not_true, Bool.false_eq_true, if_false]
    cases hword : wordW h w with
    | false => exact ⟨false, by simp, by simp, by simp [mayDup, hword]⟩
    | true =>
      simp only [Bool.not_true, Bool.false_eq_true, if_false]
      rw [copyHeap_eq H hN, cloneHeap_eq H hN, liveAt_eq hl hw]
      simp only [Option.bind_some, spec_isPointer]
      by_cases hp : 1000 ≤ w
      · have hlv : 0 < ct h (w - 1000).toNat := by have := hword; rw [wordW_ptr hp] at this; simpa using this
        have hj : (w - 1000).toNat < h.length := ct_lt (by omega)
        have hlw : liveW h w = true := by rw [ptr_eq hp, liveW_ct]; simpa using hlv
        rw [if_pos (by simpa using hp), hlw, cat_get hp hw hj]
        simp only [Option.bind_some, if_true]
        by_cases he : (cat h (w - 1000).toNat).count = 999999
        · refine ⟨false, by simp [he], by simp [he], ?_⟩
          simp only [Bool.false_eq_true, false_iff]
          intro M
          exact M.2.2 hp he
        · have hc := H.ct_I64 (w - 1000).toNat
          have hcell := (cellS_iff _ _).1 (V.cell (w - 1000).toNat)
          have hwc : Sh.w ((cat h (w - 1000).toNat).count + 1) = ct h (w - 1000).toNat + 1 := w_id (by omega) (by omega)
          obtain ⟨w1, w2⟩ := hw
          have hput : Sh.put h (Sh.w (w - 1000)) ⟨ct h (w - 1000).toNat + 1, (cat h (w - 1000).toNat).tag, (cat h (w - 1000).toNat).fields⟩ = dup h w := by
            unfold dup
            rw [if_pos hp, w_id (by omega) (by omega)]; rfl
          refine ⟨true, ?_, ?_, by simp only [true_iff]; exact ⟨V, hword, fun _ => he⟩⟩
          · rw [if_neg (by simpa using he), hwc, hput]; rfl
          · rw [if_neg (by simpa using he), hwc, hput]; rfl
      · refine ⟨true, ?_, ?_, by simp only [true_iff]; exact ⟨V, hword, fun h1 => absurd h1 hp⟩⟩
        · rw [if_neg (by simpa using hp)]; simp [dup, hp]
        · rw [liveW_low hp]; simp [dup, hp]

theorem cat_dup {h : List Cell} {w : Int} (hp : 1000 ≤ w) (hj : (w - 1000).toNat < h.length) (k : Nat) : cat (dup h w) k = if k = (w - 1000).toNat then ⟨ct h k + 1, (cat h k).tag, (cat h k).fields⟩ else cat h k := by
  unfold dup
  rw [if_pos hp, cat_pt hj]
  by_cases e : k = (w - 1000).toNat
  · subst e; simp
  · simp [e]
theorem len_dup (h : List Cell) (w : Int) : (dup h w).length = h.length := by unfold dup; split <;> simp

/-- A count that is greater and not too great: the heap is valid still. -/
theorem VH.more {h g : List Cell} (V : VH h) (hlen : g.length = h.length) {x : Nat} (hx : 0 < ct h x) (hc : ct h x < 999999) (hg : ∀ k, cat g k = if k = x then ⟨ct h k + 1, (cat h k).tag, (cat h k).fields⟩ else cat h k) : VH g := by
  have hct : ∀ k, ct g k = if k = x then ct h k + 1 else ct h k := fun k => by unfold ct; rw [hg]; split <;> rfl
  have hfl : ∀ k, fl g k = fl h k := fun k => by rw [fl_cat, fl_cat, hg]; split <;> rfl
  have hpos : ∀ k, 0 < ct g k ↔ 0 < ct h k := fun k => by
    rw [hct]; split
    · rename_i e; subst e; omega
    · rfl
  have hin : ∀ k, inA g k = inA h k := fun k => by
    show inn g _ k g.length = inn h _ k h.length
    rw [hlen]
    exact inn_congr fun i _ => by rw [hfl]
  have hwd : ∀ w, wordW g w = wordW h w := fun w => by
    by_cases hw : 1000 ≤ w
    · rw [wordW_ptr hw, wordW_ptr hw]
      exact decide_eq_decide.2 (hpos _)
    · rw [wordW_int hw, wordW_int hw]
  obtain ⟨rk, hrk⟩ := V.rk
  refine VH.of ?_ (fun j hj => ?_) (fun j hj => ?_) rk fun i j hj hp => hrk i j ((hpos j).1 hj) (by rwa [hfl] at hp)
  · have := V.last
    rw [lastFree_ct] at this ⊢
    rw [hlen]
    rcases this with h1 | h1
    · exact .inl h1
    · refine .inr ?_
      rw [hct]; split
      · rename_i e; rw [e]; omega
      · exact h1
  · obtain ⟨a1, a2, a3, a4, a5⟩ := (cellS_iff _ _).1 (V.cell j)
    rw [cellS_iff, hg]
    by_cases e : j = x
    · subst e
      simp only [if_true]
      obtain ⟨b1, b2, b3⟩ := a5 (by unfold ct at hx; omega)
      exact ⟨a1, by unfold ct at hx ⊢; omega, by omega, fun h => by omega, fun _ => ⟨fun w hw => by rw [hwd]; exact b1 w hw, b2, b3⟩⟩
    · simp only [e, if_false]
      exact ⟨a1, a2, a3, a4, fun h => ⟨fun w hw => by rw [hwd]; exact (a5 h).1 w hw, (a5 h).2⟩⟩
  · rw [hin]
    have := V.cnt ((hpos j).1 hj)
    rw [hct]; split <;> omega

/-! ### A cell more -/

def fst (h : List Cell) : Nat → Nat → Nat
  | 0, i => i
  | k + 1, i => if ct h i = 0 then i else fst h k (i + 1)
/-- The first free place. -/
def ff (h : List Cell) : Nat := fst h h.length 0
theorem fst_spec (h : List Cell) : ∀ k i, i ≤ fst h k i ∧ fst h k i ≤ i + k ∧ (∀ j, i ≤ j → j < fst h k i → ct h j ≠ 0) ∧ (fst h k i < i + k → ct h (fst h k i) = 0) := by
  intro k
  induction k with
  | zero => intro i; exact ⟨Nat.le_refl _, Nat.le_refl _, fun j h1 h2 => by simp only [fst] at h2; omega, fun h => by simp only [fst] at h; omega⟩
  | succ k ih =>
    intro i
    unfold fst
    split
    · rename_i h0
      exact ⟨Nat.le_refl _, by omega, fun j h1 h2 => by omega, fun _ => h0⟩
    · rename_i h0
      obtain ⟨a, b, c, d⟩ := ih (i + 1)
      refine ⟨by omega, by omega, fun j h1 h2 => ?_, fun h => d (by omega)⟩
      by_cases e : j = i
      · subst e; exact h0
      · exact c j (by omega) h2
theorem ff_le (h : List Cell) : ff h ≤ h.length := by have := (fst_spec h h.length 0).2.1; unfold ff; omega
theorem ff_before (h : List Cell) {j : Nat} (hj : j < ff h) : ct h j ≠ 0 := (fst_spec h h.length 0).2.2.1 j (Nat.zero_le _) hj
theorem ff_free (h : List Cell) : ct h (ff h) = 0 := by
  by_cases h1 : ff h < h.length
  · exact (fst_spec h h.length 0).2.2.2 (by unfold ff at h1; omega)
  · unfold ct; rw [cat_ge (by omega)]

theorem freeIndex_L1 {h : List Cell} (hl : h.length ≤ 2097160) {N i : Nat} (hi : i ≤ h.length) (hN : h.length - i < N) : spec_freeIndex_L1 h N i = some (if fst h (h.length - i) i < h.length then Sum.inl ((fst h (h.length - i) i : Nat) : Int) else Sum.inr ()) := by
  refine loop_ind h.length (fun N i => spec_freeIndex_L1 h N i = some (if fst h (h.length - i) i < h.length then Sum.inl ((fst h (h.length - i) i : Nat) : Int) else Sum.inr ())) ?_ ?_ hi hN
  · intro n
    rw [spec_freeIndex_L1, if_neg (by simp [len_def])]
    simp [fst]
  · intro n i hi ih
    rw [spec_freeIndex_L1, if_pos (by simp [len_def]; omega), get_lt (cat_lt hi)]
    simp only [Option.bind_some]
    obtain ⟨k, hk⟩ : ∃ k, h.length - i = k + 1 := ⟨h.length - i - 1, by omega⟩
    rw [hk]
    unfold fst
    by_cases h0 : (cat h i).count = 0
    · rw [if_pos (by simpa using h0), if_pos (show ct h i = 0 from h0), if_pos hi]
    · rw [if_neg (by simpa using h0), if_neg (show ¬ ct h i = 0 from h0), w_id (by omega) (by omega), show ((i : Int) + 1) = ((i + 1 : Nat) : Int) by omega, ih, show h.length - (i + 1) = k by omega]
theorem freeIndex_eq {h : List Cell} (hl : h.length ≤ 2097160) {N : Nat} (hN : 9000000 ≤ N) : spec_freeIndex N h = some ((ff h : Nat) : Int) := by
  unfold spec_freeIndex
  have := freeIndex_L1 hl (Nat.zero_le _) (by omega : h.length - 0 < N)
  rw [show ((0 : Nat) : Int) = 0 from rfl, Nat.sub_zero] at this
  rw [this]
  have hle := ff_le h
  unfold ff at hle ⊢
  by_cases h1 : fst h h.length 0 < h.length
  · rw [if_pos h1]; rfl
  · rw [if_neg h1]
    simp only [Sh.cont_inr, len_def]
    congr 2; omega
theorem indexFunc_L1 {h : List Cell} (hl : h.length ≤ 2097160) {N i : Nat} (hi : i ≤ h.length) (hN : h.length - i < N) : slices_IndexFunc_impl_heap_impl_Cell_L1 h N i = some (if fst h (h.length - i) i < h.length then Sum.inl ((fst h (h.length - i) i : Nat) : Int) else Sum.inr ()) := by
  refine loop_ind h.length (fun N i => slices_IndexFunc_impl_heap_impl_Cell_L1 h N i = some (if fst h (h.length - i) i < h.length then Sum.inl ((fst h (h.length - i) i : Nat) : Int) else Sum.inr ())) ?_ ?_ hi hN
  · intro n
    rw [slices_IndexFunc_impl_heap_impl_Cell_L1, if_neg (by simp [len_def])]
    simp [fst]
  · intro n i hi ih
    rw [slices_IndexFunc_impl_heap_impl_Cell_L1, if_pos (by simp [len_def]; omega), get_lt (cat_lt hi)]
    simp only [Option.bind_some, impl_heap_alloc_1]
    obtain ⟨k, hk⟩ : ∃ k, h.length - i = k + 1 := ⟨h.length - i - 1, by omega⟩
    rw [hk]
    unfold fst
    by_cases h0 : (cat h i).count = 0
    · rw [if_pos (by simpa using h0), if_pos (show ct h i = 0 from h0), if_pos hi]
    · rw [if_neg (by simpa using h0), if_neg (show ¬ ct h i = 0 from h0), w_id (by omega) (by omega), show ((i : Int) + 1) = ((i + 1 : Nat) : Int) by omega, ih, show h.length - (i + 1) = k by omega]
theorem indexFunc_eq {h : List Cell} (hl : h.length ≤ 2097160) {N : Nat} (hN : 9000000 ≤ N) : slices_IndexFunc_impl_heap_impl_Cell N h = some (if ff h < h.length then ((ff h : Nat) : Int) else -1) := by
  unfold slices_IndexFunc_impl_heap_impl_Cell
  have := indexFunc_L1 hl (Nat.zero_le _) (by omega : h.length - 0 < N)
  rw [show ((0 : Nat) : Int) = 0 from rfl, Nat.sub_zero] at this
  rw [this]
  unfold ff
  by_cases h1 : fst h h.length 0 < h.length
  · rw [if_pos h1, if_pos h1]; rfl
  · rw [if_neg h1, if_neg h1]; rfl

/-- The heap with a cell at the first free place. -/
def alc (h : List Cell) (c : Cell) : List Cell := if ff h < h.length then h.set (ff h) c else h ++ [c]
theorem cat_alc (h : List Cell) (c : Cell) (k : Nat) : cat (alc h c) k = if k = ff h then c else cat h k := by
  unfold alc
  split
  · rename_i h1; exact cat_pt h1 k
  · rename_i h1
    have : ff h = h.length := by have := ff_le h; omega
    rw [this]; exact cat_app k
theorem len_alc (h : List Cell) (c : Cell) : (alc h c).length = if ff h < h.length then h.length else h.length + 1 := by unfold alc; split <;> simp
theorem ff_lt_alc (h : List Cell) (c : Cell) : ff h < (alc h c).length := by rw [len_alc]; have := ff_le h; split <;> omega
theorem Hp.alc {h : List Cell} {c : Cell} (H : Hp h) (hs : hsize h + 1 + c.fields.length ≤ 2097160) (hc : CellIn c) : Hp (alc h c) := by
  refine ⟨?_, fun d hd => ?_⟩
  · unfold RC.alc
    split
    · rename_i h1
      have := fsum_set (c := c) h1
      unfold hsize at hs ⊢
      rw [List.length_set]; omega
    · unfold hsize at hs ⊢
      rw [fsum_append, List.length_append]
      have : fsum [c] = c.fields.length := by simp [fsum]
      rw [this]; simp; omega
  · unfold RC.alc at hd
    split at hd
    · rcases List.mem_or_eq_of_mem_set hd with h1 | h1
      · exact H.cells d h1
      · rw [h1]; exact hc
    · rcases List.mem_append.1 hd with h1 | h1
      · exact H.cells d h1
      · rw [List.mem_singleton] at h1; rw [h1]; exact hc

theorem place_eq {h : List Cell} {t : Int} {fs : List Int} (hl : h.length ≤ 2097160) (hf : fs.length ≤ 2097160) : spec_place h ((ff h : Nat) : Int) t fs = some (alc h ⟨1, t, fs⟩) := by
  unfold spec_place
  rw [copyInts_eq hf, len_def]
  simp only [Option.bind_some]
  have hle := ff_le h
  unfold alc
  by_cases h1 : ff h < h.length
  · rw [if_neg (by simp; omega), if_pos h1, get_lt (cat_lt h1)]
    simp only [Option.bind_some]
    rw [put_nat]
  · rw [if_pos (by simp; omega), if_neg h1, app_ok _ _ 40 (by simp; omega) (by simp; omega)]; rfl
theorem heapAlloc_eq {h : List Cell} {t : Int} {fs : List Int} (hl : h.length ≤ 2097160) (hf : fs.length ≤ 2097160) {N : Nat} (hN : 9000000 ≤ N) : impl_heap_alloc N h t fs = some (1000 + (ff h : Int), alc h ⟨1, t, fs⟩) := by
  unfold impl_heap_alloc
  rw [clone_eq _ hf, indexFunc_eq hl hN, len_def]
  simp only [Option.bind_some]
  have hle := ff_le h
  unfold alc
  by_cases h1 : ff h < h.length
  · rw [if_pos h1, if_neg (by simp), if_pos h1, get_lt (cat_lt h1)]
    simp only [Option.bind_some]
    rw [put_nat, w_id (by omega) (by omega)]
  · rw [if_neg h1, if_pos (by simp), if_neg h1, app_ok _ _ 40 (by simp; omega) (by simp; omega)]
    simp only [Option.bind_some]
    rw [w_id (by omega) (by omega), show h.length = ff h by omega]

theorem alloc_L1 {h : List Cell} (hl : h.length ≤ 2097160) {fs : List Int} (hf : fs.length ≤ 2097160) (hF : ∀ x ∈ fs, I64 x) {N i : Nat} (hi : i ≤ fs.length) (hN : fs.length - i < N) : spec_AllocCell_L1 h fs N i = some (if (fs.drop i).all (wordW h) then Sum.inr () else Sum.inl ([], 0)) := by
  refine loop_ind fs.length (fun N i => spec_AllocCell_L1 h fs N i = some (if (fs.drop i).all (wordW h) then Sum.inr () else Sum.inl ([], 0))) ?_ ?_ hi hN
  · intro n
    rw [spec_AllocCell_L1, if_neg (by simp [len_def])]; simp
  · intro n i hi ih
    obtain ⟨x, hx, hxm⟩ := at_lt hi
    rw [spec_AllocCell_L1, if_pos (by simp [len_def]; omega), get_lt hx]
    simp only [Option.bind_some]
    rw [isWord_eq hl (hF x hxm), w_id (by omega) (by omega), show ((i : Int) + 1) = ((i + 1 : Nat) : Int) by omega, ih, all_drop hx]
    cases wordW h x <;> simp

def mayAlloc (h : List Cell) (t : Int) (fs : List Int) : Prop := VH h ∧ VH (alc h ⟨1, t, fs⟩)

/-- A new cell's fields are words of the heap as it was. -/
theorem alloc_words {h : List Cell} {t : Int} {fs : List Int} (V : VH (alc h ⟨1, t, fs⟩)) : ∀ x ∈ fs, wordW h x = true := fun x hx => by
  have hc := cat_alc h ⟨1, t, fs⟩ (ff h)
  rw [if_pos rfl] at hc
  obtain ⟨_, _, _, _, a⟩ := (cellS_iff _ _).1 (V.cell (ff h))
  rw [hc] at a
  have h1 := (a (by simp)).1 x hx
  by_cases hp : 1000 ≤ x
  · rw [wordW_ptr hp] at h1 ⊢
    have h2 : 0 < ct (alc h ⟨1, t, fs⟩) (x - 1000).toNat := by simpa using h1
    by_cases e : (x - 1000).toNat = ff h
    · exfalso
      obtain ⟨rk, hrk⟩ := V.rk
      have := hrk (ff h) (ff h) (by rw [← e]; exact h2) (pc_pos.2 (by rw [fl_cat, hc, ← e, ← ptr_eq hp]; exact hx))
      omega
    · unfold ct at h2
      rw [cat_alc, if_neg e] at h2
      exact decide_eq_true h2
  · rw [wordW_int hp] at h1 ⊢; exact h1

theorem AllocCell_both {h : List Cell} {t : Int} {fs : List Int} (H : Hp h) (hs : hsize h + 1 + fs.length ≤ 2097160) (ht : I64 t) (hF : ∀ x ∈ fs, I64 x) {N : Nat} (hN : 9000000 ≤ N) :
    ∃ b : Bool, spec_AllocCell N h t fs = some (if b then (alc h ⟨1, t, fs⟩, 1000 + (ff h : Int)) else ([], 0)) ∧ impl_AllocCell N h t fs = some (if b then (alc h ⟨1, t, fs⟩, 1000 + (ff h : Int)) else ([], 0)) ∧ (b = true ↔ mayAlloc h t fs) := by
  have hl := H.len
  have hf : fs.length ≤ 2097160 := by omega
  obtain ⟨b, r, h1, _, _, h2, h3, _⟩ := valid_both H hN
  unfold spec_AllocCell impl_AllocCell
  rw [h1, h2]
  simp only [Option.bind_some]
  cases b with
  | false => exact ⟨false, by simp, by simp, by simp [mayAlloc]; intro hv; exact absurd (h3.2 hv) (by simp)⟩
  | true =>
    have V := h3.1 rfl
    have Ha : Hp (alc h ⟨1, t, fs⟩) := H.alc hs ⟨⟨by show (-9223372036854775808 : Int) ≤ 1; decide, by show (1 : Int) ≤ 9223372036854775807; decide⟩, ht, hF, by show fs.length ≤ 9223372036854775807; omega⟩
    obtain ⟨b', r', g1, _, _, g2, g3, _⟩ := valid_both Ha hN
    have hL := alloc_L1 hl hf hF (Nat.zero_le _) (by omega : fs.length - 0 < N)
    rw [show ((0 : Nat) : Int) = 0 from rfl, List.drop_zero] at hL
    have hle := ff_le h
    rw [freeIndex_eq hl hN, copyHeap_eq H hN, cloneHeap_eq H hN]
    simp only [Option.bind_some, Bool.not_true, Bool.false_eq_true, if_false]
    rw [hL, place_eq hl hf, heapAlloc_eq hl hf hN]
    simp only [Option.bind_some]
    rw [g1, g2, w_id (by omega) (by omega)]
    simp only [Option.bind_some]
    cases b' with
    | false =>
      refine ⟨false, ?_, by simp, by simp [mayAlloc]; intro _ hv; exact absurd (g3.2 hv) (by simp)⟩
      cases fs.all (wordW h) <;> simp
    | true =>
      have Va := g3.1 rfl
      have hall : fs.all (wordW h) = true := List.all_eq_true.2 (alloc_words Va)
      exact ⟨true, by simp [hall], by simp, by simp [mayAlloc, V, Va]⟩
end RC

/- Results that are heaps: compared, marked, held. -/
namespace RC
open Go

/-- A heap whose lists are not too long. -/
structure Fit (h : List Cell) : Prop where
  len : h.length ≤ 2400000
  flen : ∀ c ∈ h, c.fields.length ≤ 2097160
  sum : fsum h ≤ 4000000

theorem Hp.fit {h : List Cell} (H : Hp h) : Fit h := ⟨by have := H.len; omega, fun _ hc => H.flen hc, by have := H.size; unfold hsize at this; omega⟩
theorem Fit.nil : Fit [] := ⟨by simp, by simp, by simp [fsum]⟩

theorem eqCellS_fit_L1 {h : List Cell} (F : Fit h) {M : Nat} (hM : 9000000 ≤ M) {N i : Nat} (hi : i ≤ h.length) (hN : h.length - i < N) : laws_eqCellS_L1 M h h N i = some (Sum.inr ()) := by
  have hl := F.len
  refine loop_ind h.length (fun N i => laws_eqCellS_L1 M h h N i = some (Sum.inr ())) ?_ ?_ hi hN
  · intro n
    rw [laws_eqCellS_L1, if_neg (by simp [len_def])]
  · intro n i hi ih
    obtain ⟨x, hx, hxm⟩ := at_lt hi
    rw [laws_eqCellS_L1, if_pos (by simp [len_def]; omega), get_lt hx]
    simp only [Option.bind_some]
    rw [eqCell_eq (F.flen x hxm) hM, w_id (by omega) (by omega), show ((i : Int) + 1) = ((i + 1 : Nat) : Int) by omega]
    simpa using ih
theorem Fit.eq {h : List Cell} (F : Fit h) {N : Nat} (hN : 9000000 ≤ N) : laws_eqCellS N h h = some true := by
  have hl := F.len
  unfold laws_eqCellS
  have := eqCellS_fit_L1 F hN (Nat.zero_le _) (by omega : h.length - 0 < N)
  rw [show ((0 : Nat) : Int) = 0 from rfl] at this
  simp [this]

theorem Fit.csz {h : List Cell} (F : Fit h) : csz h ≤ 9000000 := by have := F.len; have := F.sum; unfold RC.csz; omega
theorem Fit.mark {h : List Cell} (F : Fit h) {k : Nat} (hk : k ≤ 30000000) {N : Nat} (hN : 9000000 ≤ N) : laws_markCellS N h (k : Int) = some (((k + RC.csz h : Nat) : Int), markC k h) := by
  unfold laws_markCellS
  have hl := F.len
  have := markCellS_L1_eq hN h [] k N (by omega) (by simp; omega) F.flen (by have := F.csz; omega)
  rw [List.length_nil, List.nil_append, List.nil_append] at this
  rw [show (0 : Int) = ((0 : Nat) : Int) from rfl, this]; rfl

theorem heldCellS_L1_eq {N : Nat} (hN : 9000000 ≤ N) : ∀ (B A : List Cell) (k n : Nat), B.length < n → A.length + B.length ≤ 9000000 → (∀ c ∈ B, c.fields.length ≤ 2097160) → k + csz B ≤ 40000000 →
    laws_heldCellS_L1 N (A ++ markC k B) n (k : Int) (A.length : Int) = some (Sum.inr (((k + csz B : Nat) : Int)))
  | [], A, k, n, hn, _, _, _ => by
    obtain ⟨n, rfl⟩ : ∃ m, n = m + 1 := ⟨n - 1, by simp at hn; omega⟩
    rw [laws_heldCellS_L1, if_neg (by simp [len_def, markC])]; simp [csz, fsum]
  | c :: B, A, k, n, hn, h1, hf, h2 => by
    have hfc := hf c (by simp)
    rw [csz_cons] at h2 ⊢
    simp only [List.length_cons] at hn h1
    obtain ⟨n, rfl⟩ : ∃ m, n = m + 1 := ⟨n - 1, by omega⟩
    have ih := heldCellS_L1_eq hN B (A ++ [⟨(k : Int), ((k + 1 : Nat) : Int), ramp (k + 2) c.fields.length⟩]) (k + 2 + c.fields.length) n (by omega) (by simp; omega) (fun c hc => hf c (by simp [hc])) (by omega)
    have e2 : ((k : Int) + 1) = ((k + 1 : Nat) : Int) := by omega
    have e3 : (((k + 1 : Nat) : Int) + 1) = ((k + 2 : Nat) : Int) := by omega
    rw [laws_heldCellS_L1, if_pos (by simp [len_def, markC_len]; omega)]
    simp only [markC]
    rw [get_mid]
    simp only [Option.bind_some]
    rw [w_id (n := (k : Int) + 1) (by omega) (by omega), e2, w_id (n := ((k + 1 : Nat) : Int) + 1) (by omega) (by omega), e3, heldIntS_eq hfc (by omega) hN]
    have d1 : ¬ (((k + 2 + c.fields.length : Nat) : Int) < 0) := by omega
    simp only [Option.bind_some, decide_true, Bool.not_true, Bool.false_eq_true, if_false, d1, decide_false]
    rw [w_id (by omega) (by omega)]
    rw [List.length_append, List.append_assoc] at ih
    simp only [List.length_cons, List.length_nil, List.cons_append, List.nil_append] at ih
    have e1 : ((A.length : Int) + 1) = ((A.length + (0 + 1) : Nat) : Int) := by omega
    rw [e1, ih]
    simp only [show k + 2 + c.fields.length + csz B = k + (2 + c.fields.length + csz B) by omega]

theorem Fit.held {h : List Cell} (F : Fit h) {k : Nat} (hk : k ≤ 30000000) {N : Nat} (hN : 9000000 ≤ N) : laws_heldCellS N (markC k h) (k : Int) = some (((k + RC.csz h : Nat) : Int)) := by
  unfold laws_heldCellS
  have hl := F.len
  have := heldCellS_L1_eq hN h [] k N (by omega) (by simp; omega) F.flen (by have := F.csz; omega)
  rw [List.length_nil, List.nil_append] at this
  rw [show (0 : Int) = ((0 : Nat) : Int) from rfl, this]; rfl

theorem Fit.dup {h : List Cell} (H : Hp h) {w : Int} (M : mayDup h w) : Fit (dup h w) := by
  have hl := H.len
  have hs := H.size
  unfold hsize at hs
  refine ⟨by rw [len_dup]; omega, fun c hc => ?_, ?_⟩
  · unfold RC.dup at hc
    split at hc
    · rcases List.mem_or_eq_of_mem_set hc with h | rfl
      · exact H.flen h
      · by_cases hj : (w - 1000).toNat < h.length
        · exact H.flen (c := cat h (w - 1000).toNat) (cat_mem hj)
        · have : cat h (w - 1000).toNat = ⟨0, 0, []⟩ := by unfold cat; rw [List.getElem?_eq_none (by omega)]; rfl
          simp [this]
    · exact H.flen hc
  · unfold RC.dup
    split
    · by_cases hj : (w - 1000).toNat < h.length
      · have := fsum_set (c := ⟨ct h (w - 1000).toNat + 1, (cat h (w - 1000).toNat).tag, (cat h (w - 1000).toNat).fields⟩) hj
        rw [fl_cat] at this
        simp only at this
        omega
      · rw [List.set_eq_of_length_le (by omega)]; omega
    · omega

end RC
