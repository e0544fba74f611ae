import Derived.Test.YtcpedchmkhlpnaaPlainA
import Derived.Test.YtcpedchmkhlpnaaHADefs
namespace RC
open Go

/-! ### The size of what came in; copies; comparisons -/

theorem szIntS_eq {l : List Int} {left : Int} (h0 : 0 ≤ left) (h1 : left ≤ 1048576) (hl : l.length ≤ 9223372036854775807) : laws_szIntS l left = some (if left - l.length < 0 then -1 else left - l.length) := by
  unfold laws_szIntS
  rw [len_def, w_id (by omega) (by omega)]
  by_cases h : left - l.length < 0 <;> simp [h]

theorem szCell_eq {c : Cell} {left : Int} (h0 : 0 ≤ left) (h1 : left ≤ 1048576) (hc : CellIn c) : laws_szCell c left = some (if left - c.fields.length < 0 then -1 else left - c.fields.length) := by
  unfold laws_szCell
  rw [szIntS_eq h0 h1 hc.len]
  simp only [Option.bind_some]
  by_cases h : left - c.fields.length < 0 <;> simp [h]

theorem szCellS_L1_eq {h : List Cell} (hc : ∀ c ∈ h, CellIn c) (hl : h.length ≤ 1048576) {N i : Nat} (hi : i ≤ h.length) (hN : h.length - i < N) : ∀ left : Int, 0 ≤ left → left ≤ 1048576 →
    laws_szCellS_L1 h N left i = some (if left - fsum (h.drop i) < 0 then Sum.inl (-1) else Sum.inr (left - fsum (h.drop i))) := by
  refine loop_ind h.length (fun N i => ∀ left : Int, 0 ≤ left → left ≤ 1048576 → laws_szCellS_L1 h N left i = some (if left - fsum (h.drop i) < 0 then Sum.inl (-1) else Sum.inr (left - fsum (h.drop i)))) ?_ ?_ hi hN
  · intro n left h0 h1
    rw [laws_szCellS_L1]
    simp [len_def, fsum]
    omega
  · intro n i hi ih left h0 h1
    obtain ⟨c, hci, hcm⟩ := at_lt hi
    have hd : fsum (h.drop i) = c.fields.length + fsum (h.drop (i + 1)) := by rw [drop_cons hci]; simp [fsum]
    rw [laws_szCellS_L1]
    rw [if_pos (by simp [len_def]; omega), get_lt hci]
    simp only [Option.bind_some]
    rw [szCell_eq h0 h1 (hc c hcm)]
    simp only [Option.bind_some]
    by_cases h2 : left - c.fields.length < 0
    · simp only [h2, if_true]
      rw [if_pos (by simp), if_pos (by omega)]
    · simp only [h2, if_false]
      rw [if_neg (by simp [h2]), w_id (by omega) (by omega)]
      have := ih (left - c.fields.length) (by omega) (by omega)
      rw [show ((i : Int) + 1) = ((i + 1 : Nat) : Int) by omega, this, hd]
      have e : left - (c.fields.length : Int) - fsum (h.drop (i + 1)) = left - ((c.fields.length + fsum (h.drop (i + 1)) : Nat) : Int) := by omega
      rw [e]

theorem szCellS_eq {h : List Cell} (H : HeapIn h) {N : Nat} (hN : 2000000 ≤ N) : laws_szCellS N h 1048576 = some (if hsize h ≤ 1048576 then 1048576 - (hsize h : Int) else -1) := by
  unfold laws_szCellS
  have hl := H.2
  rw [len_def, w_id (by omega) (by omega)]
  by_cases h1 : (1048576 : Int) - h.length < 0
  · rw [if_pos (by simpa using h1), if_neg (by unfold hsize; omega)]
  · rw [if_neg (by simpa using h1)]
    have := szCellS_L1_eq H.1 (by omega) (Nat.zero_le _) (by omega : h.length - 0 < N) (1048576 - h.length) (by omega) (by omega)
    rw [show ((0 : Nat) : Int) = 0 from rfl] at this
    rw [this, List.drop_zero]
    by_cases h2 : (1048576 : Int) - h.length - fsum h < 0
    · rw [if_pos h2, if_neg (by unfold hsize; omega)]; rfl
    · rw [if_neg h2, if_pos (by unfold hsize; omega)]
      simp only [Sh.cont_inr]
      congr 1
      unfold hsize; omega

theorem toIntS_L1_eq {l : List Int} (hl : l.length ≤ 1048576) {N i : Nat} (hi : i ≤ l.length) (hN : l.length - i < N) : ∀ m : List Int, m.length = l.length → m.take i = l.take i → laws_toIntS_L1 l N i m = some l := by
  refine loop_ind l.length (fun N i => ∀ m : List Int, m.length = l.length → m.take i = l.take i → laws_toIntS_L1 l N i m = some l) ?_ ?_ hi hN
  · intro n m hm ht
    rw [laws_toIntS_L1, if_neg (by simp [len_def])]
    rw [List.take_of_length_le (by omega), List.take_length] at ht
    rw [ht]
  · intro n i hi ih m hm ht
    obtain ⟨x, hx, _⟩ := at_lt hi
    obtain ⟨y, hy, _⟩ := at_lt (l := m) (i := i) (by omega)
    rw [laws_toIntS_L1, if_pos (by simp [len_def]; omega), get_lt hx]
    simp only [Option.bind_some]
    rw [get_lt hy]
    simp only [Option.bind_some]
    rw [w_id (by omega) (by omega), put_nat, show ((i : Int) + 1) = ((i + 1 : Nat) : Int) by omega]
    refine ih _ (by simp [hm]) ?_
    rw [take_snoc hx, take_snoc (x := x) (by rw [List.getElem?_set]; simp; omega), List.take_set_of_le (Nat.le_refl _), ht]

theorem toIntS_eq {l : List Int} (hl : l.length ≤ 1048576) {N : Nat} (hN : 2000000 ≤ N) : laws_toIntS N l = some l := by
  unfold laws_toIntS
  rw [len_def, mk_ok 0 l.length 8 (by omega) (by omega)]
  simp only [Option.bind_some]
  have := toIntS_L1_eq hl (Nat.zero_le _) (by omega : l.length - 0 < N) (List.replicate l.length 0) (by simp) (by simp)
  rw [show ((0 : Nat) : Int) = 0 from rfl] at this
  rw [this]; rfl

theorem toCell_eq {c : Cell} (hl : c.fields.length ≤ 1048576) {N : Nat} (hN : 2000000 ≤ N) : laws_toCell N c = some c := by
  unfold laws_toCell
  rw [toIntS_eq hl hN]; rfl

theorem toCellS_L1_eq {h : List Cell} (hl : h.length ≤ 1048576) (hf : ∀ c ∈ h, c.fields.length ≤ 1048576) {M : Nat} (hM : 2000000 ≤ M) {N i : Nat} (hi : i ≤ h.length) (hN : h.length - i < N) : ∀ m : List Cell, m.length = h.length → m.take i = h.take i → laws_toCellS_L1 M h N i m = some h := by
  refine loop_ind h.length (fun N i => ∀ m : List Cell, m.length = h.length → m.take i = h.take i → laws_toCellS_L1 M h N i m = some h) ?_ ?_ hi hN
  · intro n m hm ht
    rw [laws_toCellS_L1, if_neg (by simp [len_def])]
    rw [List.take_of_length_le (by omega), List.take_length] at ht
    rw [ht]
  · intro n i hi ih m hm ht
    obtain ⟨x, hx, hxm⟩ := at_lt hi
    obtain ⟨y, hy, _⟩ := at_lt (l := m) (i := i) (by omega)
    rw [laws_toCellS_L1, if_pos (by simp [len_def]; omega), get_lt hx]
    simp only [Option.bind_some]
    rw [toCell_eq (hf x hxm) hM]
    simp only [Option.bind_some]
    rw [get_lt hy]
    simp only [Option.bind_some]
    rw [w_id (by omega) (by omega), put_nat, show ((i : Int) + 1) = ((i + 1 : Nat) : Int) by omega]
    refine ih _ (by simp [hm]) ?_
    rw [take_snoc hx, take_snoc (x := x) (by rw [List.getElem?_set]; simp; omega), List.take_set_of_le (Nat.le_refl _), ht]

theorem toCellS_eq {h : List Cell} (H : Hp h) {N : Nat} (hN : 2000000 ≤ N) : laws_toCellS N h = some h := by
  have hl := H.len
  unfold laws_toCellS
  rw [len_def, mk_ok _ h.length 40 (by omega) (by omega)]
  simp only [Option.bind_some]
  have := toCellS_L1_eq hl (fun c hc => H.flen hc) hN (Nat.zero_le _) (by omega : h.length - 0 < N) (List.replicate h.length ⟨0, 0, []⟩) (by simp) (by simp)
  rw [show ((0 : Nat) : Int) = 0 from rfl] at this
  rw [this]; rfl

theorem eqIntS_L1_eq {l : List Int} (hl : l.length ≤ 1048576) {N i : Nat} (hi : i ≤ l.length) (hN : l.length - i < N) : laws_eqIntS_L1 l l N i = some (Sum.inr ()) := by
  refine loop_ind l.length (fun N i => laws_eqIntS_L1 l l N i = some (Sum.inr ())) ?_ ?_ hi hN
  · intro n
    rw [laws_eqIntS_L1, if_neg (by simp [len_def])]
  · intro n i hi ih
    obtain ⟨x, hx, _⟩ := at_lt hi
    rw [laws_eqIntS_L1, if_pos (by simp [len_def]; omega), get_lt hx]
    simp only [Option.bind_some]
    rw [w_id (by omega) (by omega), show ((i : Int) + 1) = ((i + 1 : Nat) : Int) by omega]
    simpa using ih
theorem eqIntS_eq {l : List Int} (hl : l.length ≤ 1048576) {N : Nat} (hN : 2000000 ≤ N) : laws_eqIntS N l l = some true := by
  unfold laws_eqIntS
  have := eqIntS_L1_eq hl (Nat.zero_le _) (by omega : l.length - 0 < N)
  rw [show ((0 : Nat) : Int) = 0 from rfl] at this
  simp [this]
theorem eqCell_eq {c : Cell} (hl : c.fields.length ≤ 1048576) {N : Nat} (hN : 2000000 ≤ N) : laws_eqCell N c c = some true := by
  unfold laws_eqCell
  simp [eqIntS_eq hl hN]
theorem eqCellS_L1_eq {h : List Cell} (hl : h.length ≤ 1048576) (hf : ∀ c ∈ h, c.fields.length ≤ 1048576) {M : Nat} (hM : 2000000 ≤ M) {N i : Nat} (hi : i ≤ h.length) (hN : h.length - i < N) : laws_eqCellS_L1 M h h N i = some (Sum.inr ()) := by
  refine loop_ind h.length (fun N i => laws_eqCellS_L1 M h h N i = some (Sum.inr ())) ?_ ?_ hi hN
  · intro n
    rw [laws_eqCellS_L1, if_neg (by simp [len_def])]
  · intro n i hi ih
    obtain ⟨x, hx, hxm⟩ := at_lt hi
    rw [laws_eqCellS_L1, if_pos (by simp [len_def]; omega), get_lt hx]
    simp only [Option.bind_some]
    rw [eqCell_eq (hf x hxm) hM, w_id (by omega) (by omega), show ((i : Int) + 1) = ((i + 1 : Nat) : Int) by omega]
    simpa using ih
theorem eqCellS_eq {h : List Cell} (H : Hp h) {N : Nat} (hN : 2000000 ≤ N) : laws_eqCellS N h h = some true := by
  have hl := H.len
  unfold laws_eqCellS
  have := eqCellS_L1_eq hl (fun c hc => H.flen hc) hN (Nat.zero_le _) (by omega : h.length - 0 < N)
  rw [show ((0 : Nat) : Int) = 0 from rfl] at this
  simp [this]
end RC
