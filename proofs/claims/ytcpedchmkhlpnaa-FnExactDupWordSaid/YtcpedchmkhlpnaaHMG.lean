import Derived.Test.YtcpedchmkhlpnaaHMF
namespace RC
open Go

/-! ### How often a cell is pointed to; how many cells are live -/

def refAt (h : List Cell) (at_ : Int) : Int := match h[at_.toNat]? with | some c => if 0 ≤ at_ ∧ 1 ≤ c.count then (tot h h at_.toNat : Int) else -1 | none => -1

theorem RefsOf_both {h : List Cell} (H : Hp h) (k : Int) {N : Nat} (hN : 2000000 ≤ N) : ∃ v, spec_RefsOf N h k = some v ∧ impl_RefsOf N h k = some v ∧ (VH h → v = refAt h k) ∧ (¬ VH h → v = -1) := by
  have hl := H.len
  obtain ⟨b, r, h1, _, h2, _, h3, h4⟩ := valid_both H hN
  unfold spec_RefsOf impl_RefsOf
  rw [h1, h2]
  simp only [Option.bind_some, len_def]
  cases b with
  | false => exact ⟨-1, by simp, by simp, fun hv => (by have := h3.2 hv; cases this), fun _ => rfl⟩
  | true =>
    obtain rfl := h4 rfl
    have hv := h3.1 rfl
    rw [inRange_eq, w_id (by omega) (by omega), refsOf_eq H hN]
    simp only [Option.bind_some]
    by_cases k1 : k < 0
    · have e : (decide (0 ≤ k) && decide (k ≤ (h.length : Int) - 1)) = false := by simp; omega
      refine ⟨-1, by rw [e]; simp, by simp [k1], fun _ => ?_, fun hn => absurd hv hn⟩
      unfold refAt
      split
      · rw [if_neg (by omega)]
      · rfl
    · by_cases k2 : (h.length : Int) ≤ k
      · have e : (decide (0 ≤ k) && decide (k ≤ (h.length : Int) - 1)) = false := by simp; omega
        refine ⟨-1, by rw [e]; simp, by simp [k1, k2], fun _ => ?_, fun hn => absurd hv hn⟩
        unfold refAt
        rw [List.getElem?_eq_none (by omega)]
      · have e : (decide (0 ≤ k) && decide (k ≤ (h.length : Int) - 1)) = true := by simp; omega
        obtain ⟨q, rfl⟩ := Int.eq_ofNat_of_zero_le (by omega : 0 ≤ k)
        obtain ⟨c, hc, _⟩ := at_lt (l := h) (i := q) (by omega)
        have hr : Sh.get (refs h) (q : Int) = some (tot h h q : Int) := get_lt (rowOf_get (by omega))
        rw [e, get_lt hc, hr]
        have hq0 : ¬ ((q : Int) < 0) := by omega
        have hra : refAt h (q : Int) = if 1 ≤ c.count then (tot h h q : Int) else -1 := by
          unfold refAt
          simp [hc]
        by_cases k3 : c.count < 1
        · have k4 : ¬ 1 ≤ c.count := by omega
          exact ⟨-1, by simp [k3], by simp [hq0, k2, k3], fun _ => by rw [hra, if_neg k4], fun hn => absurd hv hn⟩
        · have k4 : 1 ≤ c.count := by omega
          exact ⟨(tot h h q : Int), by simp [k3], by simp [hq0, k2, k3], fun _ => by rw [hra, if_pos k4], fun hn => absurd hv hn⟩

theorem FnExactRefsOf_plain {h : List Cell} {k : Int} (H : HeapIn h) (_ : I64 k) : laws_FnExactRefsOf 2000000 h k = some true := by
  unfold laws_FnExactRefsOf
  rw [szCellS_eq H (Nat.le_refl _)]
  by_cases hs : hsize h ≤ 1048576
  · have Hh := Hp.of H hs
    obtain ⟨v, h1, h2, _⟩ := RefsOf_both Hh k (Nat.le_refl 2000000)
    simp [hs, toCellS_eq Hh (Nat.le_refl 2000000), h1, h2, eqCellS_eq Hh (Nat.le_refl 2000000)]
  · simp [hs]

def live (h : List Cell) : Nat := h.countP fun c => decide (0 < c.count)
theorem live_drop {h : List Cell} {i : Nat} {c : Cell} (hc : h[i]? = some c) : live (h.drop i) = (if 0 < c.count then 1 else 0) + live (h.drop (i + 1)) := by
  unfold live; rw [drop_cons hc, List.countP_cons]; simp only [decide_eq_true_eq]; omega
theorem live_le (h : List Cell) : live h ≤ h.length := List.countP_le_length

theorem specLive_L1 {h : List Cell} (hl : h.length ≤ 1048576) {N i : Nat} (hi : i ≤ h.length) (hN : h.length - i < N) : ∀ k : Nat, k ≤ i → spec_liveCells_L1 h N (k : Int) i = some (((k + live (h.drop i) : Nat) : Int)) := by
  refine loop_ind h.length (fun N i => ∀ k : Nat, k ≤ i → spec_liveCells_L1 h N (k : Int) i = some (((k + live (h.drop i) : Nat) : Int))) ?_ ?_ hi hN
  · intro n k _
    rw [spec_liveCells_L1, if_neg (by simp [len_def])]; simp [live]
  · intro n i hi ih k hk
    obtain ⟨c, hc, _⟩ := at_lt hi
    rw [spec_liveCells_L1, if_pos (by simp [len_def]; omega), get_lt hc]
    simp only [Option.bind_some]
    rw [w_id (n := (i : Int) + 1) (by omega) (by omega), show ((i : Int) + 1) = ((i + 1 : Nat) : Int) from rfl, w_id (n := (k : Int) + 1) (by omega) (by omega), show ((k : Int) + 1) = ((k + 1 : Nat) : Int) from rfl, live_drop hc]
    by_cases h1 : 0 < c.count
    · rw [if_pos (by simpa using h1), if_pos h1, Option.bind_some, ih (k + 1) (by omega), Nat.add_assoc]
    · rw [if_neg (by simpa using h1), if_neg h1, Option.bind_some, ih k (by omega), Nat.zero_add]
theorem implLive_L1 {h : List Cell} (hl : h.length ≤ 1048576) {N i : Nat} (hi : i ≤ h.length) (hN : h.length - i < N) : ∀ k : Nat, k ≤ i → impl_liveCells_L1 h N (k : Int) i = some (((k + live (h.drop i) : Nat) : Int)) := by
  refine loop_ind h.length (fun N i => ∀ k : Nat, k ≤ i → impl_liveCells_L1 h N (k : Int) i = some (((k + live (h.drop i) : Nat) : Int))) ?_ ?_ hi hN
  · intro n k _
    rw [impl_liveCells_L1, if_neg (by simp [len_def])]; simp [live]
  · intro n i hi ih k hk
    obtain ⟨c, hc, _⟩ := at_lt hi
    rw [impl_liveCells_L1, if_pos (by simp [len_def]; omega), get_lt hc]
    simp only [Option.bind_some]
    rw [w_id (n := (i : Int) + 1) (by omega) (by omega), show ((i : Int) + 1) = ((i + 1 : Nat) : Int) from rfl, w_id (n := (k : Int) + 1) (by omega) (by omega), show ((k : Int) + 1) = ((k + 1 : Nat) : Int) from rfl, live_drop hc]
    by_cases h1 : 0 < c.count
    · rw [if_pos (by simpa using h1), if_pos h1, Option.bind_some, ih (k + 1) (by omega), Nat.add_assoc]
    · rw [if_neg (by simpa using h1), if_neg h1, Option.bind_some, ih k (by omega), Nat.zero_add]

theorem LiveCells_both {h : List Cell} (H : Hp h) {N : Nat} (hN : 2000000 ≤ N) : ∃ v, spec_LiveCells N h = some v ∧ impl_LiveCells N h = some v ∧ (VH h → v = live h) ∧ (¬ VH h → v = -1) := by
  have hl := H.len
  obtain ⟨b, r, h1, _, _, h2, h3, _⟩ := valid_both H hN
  unfold spec_LiveCells impl_LiveCells spec_liveCells impl_liveCells
  rw [h1, h2]
  have e1 := specLive_L1 hl (Nat.zero_le _) (by omega : h.length - 0 < N) 0 (Nat.le_refl _)
  have e2 := implLive_L1 hl (Nat.zero_le _) (by omega : h.length - 0 < N) 0 (Nat.le_refl _)
  rw [show ((0 : Nat) : Int) = 0 from rfl, List.drop_zero, Nat.zero_add] at e1 e2
  rw [e1, e2]
  cases b with
  | false => exact ⟨-1, by simp, by simp, fun hv => (by have := h3.2 hv; cases this), fun _ => rfl⟩
  | true => exact ⟨(live h : Int), by simp, by simp, fun _ => rfl, fun hn => absurd (h3.1 rfl) hn⟩

theorem FnExactLiveCells_plain {h : List Cell} (H : HeapIn h) : laws_FnExactLiveCells 2000000 h = some true := by
  unfold laws_FnExactLiveCells
  rw [szCellS_eq H (Nat.le_refl _)]
  by_cases hs : hsize h ≤ 1048576
  · have Hh := Hp.of H hs
    obtain ⟨v, h1, h2, _⟩ := LiveCells_both Hh (Nat.le_refl 2000000)
    simp [hs, toCellS_eq Hh (Nat.le_refl 2000000), h1, h2, eqCellS_eq Hh (Nat.le_refl 2000000)]
  · simp [hs]
end RC
