/- Lazy heaps: both ways to tell a valid one. -/
import Derived.Test.YtkmgpbngemdmoaaHNE
import Derived.Test.YtkmgpbngemdmoaaZADefs
namespace RC
open Go

/-- A lazy heap that is not too great. -/
structure Lz (z : Lazy) : Prop where
  size : hsize z.cells + z.pending.length ≤ 1048576
  cells : ∀ c ∈ z.cells, CellIn c
  pend : ∀ x ∈ z.pending, I64 x
theorem Lz.hp {z : Lazy} (L : Lz z) : Hp z.cells := ⟨by have := L.size; omega, L.cells⟩
theorem Lz.plen {z : Lazy} (L : Lz z) : z.pending.length ≤ 1048576 := by have := L.size; omega

theorem szLazy_eq {z : Lazy} (H : LazyIn z) {N : Nat} (hN : 2000000 ≤ N) : laws_szLazy N z 1048576 = some (if hsize z.cells + z.pending.length ≤ 1048576 then 1048576 - (hsize z.cells : Int) - z.pending.length else -1) := by
  unfold laws_szLazy
  rw [szCellS_eq H.cells hN]
  by_cases h1 : hsize z.cells ≤ 1048576
  · rw [if_pos h1]
    simp only [Option.bind_some]
    rw [if_neg (by simp; omega), szIntS_eq (by omega) (by omega) H.pending.2]
    simp only [Option.bind_some]
    by_cases h2 : (1048576 : Int) - hsize z.cells - z.pending.length < 0
    · have h3 : ¬ hsize z.cells + z.pending.length ≤ 1048576 := by omega
      simp [h2, h3]
    · have h3 : hsize z.cells + z.pending.length ≤ 1048576 := by omega
      simp [h2, h3]
  · rw [if_neg h1, if_neg (by omega)]; rfl
theorem toLazy_eq {z : Lazy} (L : Lz z) {N : Nat} (hN : 2000000 ≤ N) : laws_toLazy N z = some z := by
  unfold laws_toLazy
  rw [toCellS_eq L.hp hN, toIntS_eq L.plen hN]; rfl
theorem eqLazy_eq {z : Lazy} (L : Lz z) {N : Nat} (hN : 2000000 ≤ N) : laws_eqLazy N z z = some true := by
  unfold laws_eqLazy
  simp [eqCellS_eq L.hp hN, eqIntS_eq L.plen hN]

theorem sIsIn_L1_mem {l : List Int} {x : Int} (hl : l.length ≤ 1048576) {N i : Nat} (hi : i ≤ l.length) (hN : l.length - i < N) : spec_isIn_L1 l x N i = some (if x ∈ l.drop i then Sum.inl true else Sum.inr ()) := by
  refine loop_ind l.length (fun N i => spec_isIn_L1 l x N i = some (if x ∈ l.drop i then Sum.inl true else Sum.inr ())) ?_ ?_ hi hN
  · intro n
    rw [spec_isIn_L1, if_neg (by simp [len_def])]; simp
  · intro n i hi ih
    obtain ⟨y, hy, _⟩ := at_lt hi
    rw [spec_isIn_L1, if_pos (by simp [len_def]; omega), get_lt hy]
    simp only [Option.bind_some]
    rw [w_id (by omega) (by omega), show ((i : Int) + 1) = ((i + 1 : Nat) : Int) by omega, ih, drop_cons hy]
    by_cases e : y = x
    · subst e; simp
    · have e' : ¬ x = y := fun h => e h.symm
      simp [e, e']
theorem sIsIn_eq {l : List Int} {x : Int} (hl : l.length ≤ 1048576) {N : Nat} (hN : 2000000 ≤ N) : spec_isIn N l x = some (decide (x ∈ l)) := by
  unfold spec_isIn
  have := sIsIn_L1_mem (x := x) hl (Nat.zero_le _) (by omega : l.length - 0 < N)
  rw [show ((0 : Nat) : Int) = 0 from rfl, List.drop_zero] at this
  rw [this]
  by_cases h : x ∈ l <;> simp [h]

/-- Is the pending cell told at this place as it should be? -/
def gd (h : List Cell) (P : List Int) (k : Nat) : Bool := match P[k]? with
  | some x => decide (0 ≤ x) && decide (x < h.length) && decide (ct h x.toNat = 0) && !decide (x ∈ P.take k)
  | none => true
theorem gd_iff {h : List Cell} {P : List Int} {k : Nat} {x : Int} (hx : P[k]? = some x) : gd h P k = true ↔ 0 ≤ x ∧ x < h.length ∧ ct h x.toNat = 0 ∧ x ∉ P.take k := by
  unfold gd; rw [hx]; simp [and_assoc]

theorem sl_take {l : List Int} {i : Nat} (hi : i ≤ l.length) : Sh.sl l 0 (i : Int) = some (l.take i) := by
  unfold Sh.sl
  rw [if_pos ⟨by omega, by omega, by omega⟩]; simp

theorem pend_L1 {z : Lazy} (L : Lz z) {M : Nat} (hM : 2000000 ≤ M) {N i : Nat} (hi : i ≤ z.pending.length) (hN : z.pending.length - i < N) :
    spec_validPending_L1 M z N i = some (if allF (gd z.cells z.pending) z.pending.length i then Sum.inr () else Sum.inl false) := by
  have hl := L.plen
  have hc := L.hp.len
  refine loop_ind z.pending.length (fun N i => spec_validPending_L1 M z N i = some (if allF (gd z.cells z.pending) z.pending.length i then Sum.inr () else Sum.inl false)) ?_ ?_ hi hN
  · intro n
    rw [spec_validPending_L1, if_neg (by simp [len_def]), allF_end]; rfl
  · intro n i hi ih
    obtain ⟨x, hx, hxm⟩ := at_lt hi
    obtain ⟨x1, x2⟩ := L.pend x hxm
    have hg := gd_iff (h := z.cells) hx
    rw [spec_validPending_L1, if_pos (by simp [len_def]; omega), get_lt hx]
    simp only [Option.bind_some]
    rw [inRange_eq, len_def, w_id (by omega) (by omega), w_id (n := (i : Int) + 1) (by omega) (by omega), show ((i : Int) + 1) = ((i + 1 : Nat) : Int) by omega, ih, allF_step hi, sl_take (by omega)]
    simp only [Option.bind_some]
    rw [sIsIn_eq (by simp; omega) hM]
    simp only [Option.bind_some]
    by_cases h1 : 0 ≤ x ∧ x < z.cells.length
    · have e1 : (decide (0 ≤ x) && decide (x ≤ (z.cells.length : Int) - 1)) = true := by simp; omega
      have hxn : x.toNat < z.cells.length := by omega
      rw [e1, get_pos' h1.1, cat_lt hxn]
      simp only [Option.bind_some, Bool.not_true, Bool.false_eq_true, if_false]
      by_cases h2 : ct z.cells x.toNat = 0
      · have h2' : (cat z.cells x.toNat).count = 0 := h2
        by_cases h3 : x ∈ z.pending.take i
        · have : gd z.cells z.pending i = false := by
            cases hgd : gd z.cells z.pending i with
            | false => rfl
            | true => exact absurd h3 (hg.1 hgd).2.2.2
          simp [h2', h3, this]
        · have : gd z.cells z.pending i = true := hg.2 ⟨h1.1, h1.2, h2, h3⟩
          simp [h2', h3, this]
      · have h2' : ¬ (cat z.cells x.toNat).count = 0 := h2
        have : gd z.cells z.pending i = false := by
          cases hgd : gd z.cells z.pending i with
          | false => rfl
          | true => exact absurd (hg.1 hgd).2.2.1 h2
        simp [h2', this]
    · have e1 : (decide (0 ≤ x) && decide (x ≤ (z.cells.length : Int) - 1)) = false := by simp; omega
      have : gd z.cells z.pending i = false := by
        cases hgd : gd z.cells z.pending i with
        | false => rfl
        | true => exact absurd ⟨(hg.1 hgd).1, (hg.1 hgd).2.1⟩ h1
      rw [e1]; simp [this]

def nonneg (l : List Cell) : Bool := l.all fun c => decide (0 ≤ c.count)
theorem pend_L2 {z : Lazy} (hl : z.cells.length ≤ 1048576) {N i : Nat} (hi : i ≤ z.cells.length) (hN : z.cells.length - i < N) :
    spec_validPending_L2 z N i = some (if nonneg (z.cells.drop i) then Sum.inr () else Sum.inl false) := by
  refine loop_ind z.cells.length (fun N i => spec_validPending_L2 z N i = some (if nonneg (z.cells.drop i) then Sum.inr () else Sum.inl false)) ?_ ?_ hi hN
  · intro n
    rw [spec_validPending_L2, if_neg (by simp [len_def])]; simp [nonneg]
  · intro n i hi ih
    obtain ⟨c, hc, _⟩ := at_lt hi
    rw [spec_validPending_L2, if_pos (by simp [len_def]; omega), get_lt hc]
    simp only [Option.bind_some]
    rw [w_id (by omega) (by omega), show ((i : Int) + 1) = ((i + 1 : Nat) : Int) by omega, ih]
    unfold nonneg
    rw [all_drop hc]
    by_cases h1 : c.count < 0
    · have h2 : ¬ 0 ≤ c.count := by omega
      simp [h1, h2]
    · have h2 : 0 ≤ c.count := by omega
      simp [h1, h2]
theorem impl_pend_L1 {h : List Cell} (hl : h.length ≤ 1048576) {N i : Nat} (hi : i ≤ h.length) (hN : h.length - i < N) :
    impl_checkedLazy_L1 h N i = some (if nonneg (h.drop i) then Sum.inr () else Sum.inl ([], false)) := by
  refine loop_ind h.length (fun N i => impl_checkedLazy_L1 h N i = some (if nonneg (h.drop i) then Sum.inr () else Sum.inl ([], false))) ?_ ?_ hi hN
  · intro n
    rw [impl_checkedLazy_L1, if_neg (by simp [len_def])]; simp [nonneg]
  · intro n i hi ih
    obtain ⟨c, hc, _⟩ := at_lt hi
    rw [impl_checkedLazy_L1, if_pos (by simp [len_def]; omega), get_lt hc]
    simp only [Option.bind_some]
    rw [w_id (by omega) (by omega), show ((i : Int) + 1) = ((i + 1 : Nat) : Int) by omega, ih]
    unfold nonneg
    rw [all_drop hc]
    by_cases h1 : c.count < 0
    · have h2 : ¬ 0 ≤ c.count := by omega
      simp [h1, h2]
    · have h2 : 0 ≤ c.count := by omega
      simp [h1, h2]

/-! ### The pending cells with a count -/

def rsf (h : List Cell) (Q : List Int) (j : Nat) : Cell := if (j : Int) ∈ Q then ⟨1, (cat h j).tag, (cat h j).fields⟩ else cat h j
def rs (h : List Cell) (Q : List Int) : List Cell := rowOf h.length (rsf h Q)
theorem rs_nil (h : List Cell) : rs h [] = h := by
  unfold rs
  refine Eq.trans (rowOf_congr fun j _ => ?_) (rowOf_cat h)
  simp [rsf]
theorem rs_len (h : List Cell) (Q : List Int) : (rs h Q).length = h.length := rowOf_len
theorem cat_rs {h : List Cell} {Q : List Int} {j : Nat} (hj : j < h.length) : cat (rs h Q) j = rsf h Q j := cat_rowOf hj
theorem fl_rs (h : List Cell) (Q : List Int) (j : Nat) : (cat (rs h Q) j).fields = (cat h j).fields := by
  by_cases hj : j < h.length
  · rw [cat_rs hj]; unfold rsf; split <;> rfl
  · rw [cat_ge (by rw [rs_len]; omega), cat_ge (by omega)]
theorem fsum_rowOf (n : Nat) (f g : Nat → Cell) (e : ∀ j, j < n → (f j).fields = (g j).fields) : fsum (rowOf n f) = fsum (rowOf n g) := by
  unfold fsum rowOf
  rw [List.map_map, List.map_map]
  congr 1
  refine List.map_congr_left fun j hj => ?_
  have := e j (by simpa using hj)
  simp [this]
theorem rs_hp {h : List Cell} (H : Hp h) (Q : List Int) : Hp (rs h Q) := by
  refine ⟨?_, fun c hc => ?_⟩
  · have e : fsum (rs h Q) = fsum h := by
      conv => rhs; rw [← rowOf_cat h]
      exact fsum_rowOf _ _ _ fun j _ => by unfold rsf; split <;> rfl
    have := H.size
    unfold hsize at *
    rw [e, rs_len]; exact this
  · unfold rs rowOf at hc
    obtain ⟨j, hj, rfl⟩ := List.mem_map.1 hc
    have hj' : j < h.length := by simpa using hj
    have C := H.cells _ (cat_mem hj')
    unfold rsf
    split
    · exact ⟨⟨by show (_ : Int) ≤ 1; decide, by show (1 : Int) ≤ _; decide⟩, C.tag, C.flds⟩
    · exact C
theorem rs_snoc {h : List Cell} {P : List Int} {i : Nat} {x : Int} (hx : P[i]? = some x) (h0 : 0 ≤ x) (h1 : x < h.length) (hn : x ∉ P.take i) :
    Sh.get (rs h (P.take i)) x = some (cat h x.toNat) ∧ Sh.put (rs h (P.take i)) x ⟨1, (cat h x.toNat).tag, (cat h x.toNat).fields⟩ = rs h (P.take (i + 1)) := by
  have hxn : x.toNat < h.length := by omega
  have e : (x.toNat : Int) = x := by omega
  constructor
  · rw [get_pos' h0]
    unfold rs
    rw [rowOf_get hxn]
    unfold rsf
    rw [e, if_neg hn]
  · unfold Sh.put rs
    rw [rowOf_set, take_snoc hx]
    refine rowOf_congr fun j _ => ?_
    unfold rsf
    by_cases hj : j = x.toNat
    · subst hj
      rw [if_pos rfl, e, if_pos (by simp)]
    · rw [if_neg hj]
      have : ((j : Int) ∈ P.take i ++ [x]) ↔ (j : Int) ∈ P.take i := by
        simp only [List.mem_append, List.mem_singleton]
        constructor
        · rintro (h | h)
          · exact h
          · exact absurd (by omega) hj
        · exact .inl
      by_cases h2 : (j : Int) ∈ P.take i
      · rw [if_pos h2, if_pos (this.2 h2)]
      · rw [if_neg h2, if_neg fun h => h2 (this.1 h)]

theorem raised_L1 {z : Lazy} (L : Lz z) {N i : Nat} (hi : i ≤ z.pending.length) (hN : z.pending.length - i < N) : allF (gd z.cells z.pending) z.pending.length i = true →
    spec_raised_L1 z N i (rs z.cells (z.pending.take i)) = some (rs z.cells z.pending) := by
  have hl := L.plen
  refine loop_ind z.pending.length (fun N i => allF (gd z.cells z.pending) z.pending.length i = true → spec_raised_L1 z N i (rs z.cells (z.pending.take i)) = some (rs z.cells z.pending)) ?_ ?_ hi hN
  · intro n _
    rw [spec_raised_L1, if_neg (by simp [len_def]), List.take_length]
  · intro n i hi ih hall
    obtain ⟨x, hx, _⟩ := at_lt hi
    rw [allF_step hi, Bool.and_eq_true] at hall
    obtain ⟨g1, g2, g3, g4⟩ := (gd_iff hx).1 hall.1
    obtain ⟨e1, e2⟩ := rs_snoc hx g1 g2 g4
    rw [spec_raised_L1, if_pos (by simp [len_def]; omega), get_lt hx]
    simp only [Option.bind_some]
    rw [e1]
    simp only [Option.bind_some]
    rw [e2, w_id (by omega) (by omega), show ((i : Int) + 1) = ((i + 1 : Nat) : Int) by omega]
    exact ih hall.2
theorem raised_eq {z : Lazy} (L : Lz z) (hall : allF (gd z.cells z.pending) z.pending.length 0 = true) {N : Nat} (hN : 2000000 ≤ N) : spec_raised N z = some (rs z.cells z.pending) := by
  have hl := L.plen
  unfold spec_raised
  rw [copyHeap_eq L.hp hN]
  have := raised_L1 L (Nat.zero_le _) (by omega : z.pending.length - 0 < N) hall
  rw [List.take_zero, rs_nil, show ((0 : Nat) : Int) = 0 from rfl] at this
  simp only [Option.bind_some]
  rw [this]; rfl

theorem impl_pend_L2 {z : Lazy} (L : Lz z) {N i : Nat} (hi : i ≤ z.pending.length) (hN : z.pending.length - i < N) :
    impl_checkedLazy_L2 z N i (rs z.cells (z.pending.take i)) = some (if allF (gd z.cells z.pending) z.pending.length i then Sum.inr (rs z.cells z.pending) else Sum.inl ([], false)) := by
  have hl := L.plen
  have hc := L.hp.len
  refine loop_ind z.pending.length (fun N i => impl_checkedLazy_L2 z N i (rs z.cells (z.pending.take i)) = some (if allF (gd z.cells z.pending) z.pending.length i then Sum.inr (rs z.cells z.pending) else Sum.inl ([], false))) ?_ ?_ hi hN
  · intro n
    rw [impl_checkedLazy_L2, if_neg (by simp [len_def]), List.take_length, allF_end]; rfl
  · intro n i hi ih
    obtain ⟨x, hx, _⟩ := at_lt hi
    have hg := gd_iff (h := z.cells) hx
    rw [impl_checkedLazy_L2, if_pos (by simp [len_def]; omega), get_lt hx]
    simp only [Option.bind_some]
    rw [len_def, rs_len, allF_step hi]
    by_cases h0 : x < 0
    · have : gd z.cells z.pending i = false := by
        cases hgd : gd z.cells z.pending i with
        | false => rfl
        | true => have := (hg.1 hgd).1; omega
      simp [h0, this]
    · by_cases h1 : (z.cells.length : Int) ≤ x
      · have : gd z.cells z.pending i = false := by
          cases hgd : gd z.cells z.pending i with
          | false => rfl
          | true => have := (hg.1 hgd).2.1; omega
        simp [h0, h1, this]
      · have hxn : x.toNat < z.cells.length := by omega
        have e : (x.toNat : Int) = x := by omega
        have hget : Sh.get (rs z.cells (z.pending.take i)) x = some (rsf z.cells (z.pending.take i) x.toNat) := by
          rw [get_pos' (by omega)]; unfold rs; rw [rowOf_get hxn]
        rw [hget, if_neg (by simpa using h0), if_neg (by simpa using h1)]
        simp only [Option.bind_some]
        by_cases h2 : x ∈ z.pending.take i
        · have hr : rsf z.cells (z.pending.take i) x.toNat = ⟨1, (cat z.cells x.toNat).tag, (cat z.cells x.toNat).fields⟩ := by unfold rsf; rw [e, if_pos h2]
          have : gd z.cells z.pending i = false := by
            cases hgd : gd z.cells z.pending i with
            | false => rfl
            | true => exact absurd h2 (hg.1 hgd).2.2.2
          rw [hr]; simp [this]
        · have hr : rsf z.cells (z.pending.take i) x.toNat = cat z.cells x.toNat := by unfold rsf; rw [e, if_neg h2]
          rw [hr]
          by_cases h3 : ct z.cells x.toNat = 0
          · have h3' : (cat z.cells x.toNat).count = 0 := h3
            have hgd : gd z.cells z.pending i = true := hg.2 ⟨by omega, by omega, h3, h2⟩
            obtain ⟨_, e2⟩ := rs_snoc (h := z.cells) hx (by omega) (by omega) h2
            rw [e2, w_id (by omega) (by omega), show ((i : Int) + 1) = ((i + 1 : Nat) : Int) by omega, ih]
            simp [h3', hgd]
          · have h3' : ¬ (cat z.cells x.toNat).count = 0 := h3
            have : gd z.cells z.pending i = false := by
              cases hgd : gd z.cells z.pending i with
              | false => rfl
              | true => exact absurd (hg.1 hgd).2.2.1 h3
            simp [h3', this]

/-! ### No field points to a pending cell -/

def zr (h : List Cell) (P : List Int) (k : Nat) : Bool := match P[k]? with | some x => decide (tot h h x.toNat = 0) | none => true
theorem refs_at {h : List Cell} {x : Int} (h0 : 0 ≤ x) (h1 : x < h.length) : Sh.get (refs h) x = some (tot h h x.toNat : Int) := by
  unfold refs
  rw [get_pos' h0, rowOf_get (by omega)]

theorem lazy_L1 {z : Lazy} {h : List Cell} (L : Lz z) (hin : ∀ x ∈ z.pending, 0 ≤ x ∧ x < h.length) {N i : Nat} (hi : i ≤ z.pending.length) (hN : z.pending.length - i < N) :
    spec_validLazy_L1 z (refs h) N i = some (if allF (zr h z.pending) z.pending.length i then Sum.inr () else Sum.inl false) := by
  have hl := L.plen
  refine loop_ind z.pending.length (fun N i => spec_validLazy_L1 z (refs h) N i = some (if allF (zr h z.pending) z.pending.length i then Sum.inr () else Sum.inl false)) ?_ ?_ hi hN
  · intro n
    rw [spec_validLazy_L1, if_neg (by simp [len_def]), allF_end]; rfl
  · intro n i hi ih
    obtain ⟨x, hx, hxm⟩ := at_lt hi
    obtain ⟨x0, x1⟩ := hin x hxm
    have hz : zr h z.pending i = decide (tot h h x.toNat = 0) := by unfold zr; rw [hx]
    rw [spec_validLazy_L1, if_pos (by simp [len_def]; omega), get_lt hx]
    simp only [Option.bind_some]
    rw [refs_at x0 x1, w_id (by omega) (by omega), show ((i : Int) + 1) = ((i + 1 : Nat) : Int) by omega, ih, allF_step hi, hz]
    simp only [Option.bind_some]
    by_cases h2 : tot h h x.toNat = 0
    · simp [h2]
    · simp [h2]
theorem contains_L1 {P : List Int} {h : List Cell} (hl : P.length ≤ 1048576) (hin : ∀ x ∈ P, 0 ≤ x ∧ x < h.length) {N i : Nat} (hi : i ≤ P.length) (hN : P.length - i < N) :
    ∃ r, slices_IndexFunc_int_int_L1 (refs h) P N i = some r ∧ (allF (zr h P) P.length i = true → r = Sum.inr ()) ∧ (allF (zr h P) P.length i = false → ∃ k : Nat, r = Sum.inl (k : Int)) := by
  refine loop_ind P.length (fun N i => ∃ r, slices_IndexFunc_int_int_L1 (refs h) P N i = some r ∧ (allF (zr h P) P.length i = true → r = Sum.inr ()) ∧ (allF (zr h P) P.length i = false → ∃ k : Nat, r = Sum.inl (k : Int))) ?_ ?_ hi hN
  · intro n
    rw [slices_IndexFunc_int_int_L1, if_neg (by simp [len_def]), allF_end]
    exact ⟨_, rfl, fun _ => rfl, fun h => by cases h⟩
  · intro n i hi ih
    obtain ⟨x, hx, hxm⟩ := at_lt hi
    obtain ⟨x0, x1⟩ := hin x hxm
    have hz : zr h P i = decide (tot h h x.toNat = 0) := by unfold zr; rw [hx]
    rw [slices_IndexFunc_int_int_L1, if_pos (by simp [len_def]; omega), get_lt hx]
    simp only [Option.bind_some, impl_checkedLazy_1]
    rw [refs_at x0 x1, w_id (by omega) (by omega), show ((i : Int) + 1) = ((i + 1 : Nat) : Int) by omega, allF_step hi, hz]
    simp only [Option.bind_some]
    by_cases h2 : tot h h x.toNat = 0
    · rw [if_neg (by simp; omega)]
      simpa [h2] using ih
    · rw [if_pos (by simp; omega)]
      exact ⟨_, rfl, fun h => by simp [h2] at h, fun _ => ⟨i, rfl⟩⟩

/-- What a valid lazy heap is. -/
def LV (z : Lazy) : Prop := allF (gd z.cells z.pending) z.pending.length 0 = true ∧ nonneg z.cells = true ∧ VH (rs z.cells z.pending) ∧ allF (zr (rs z.cells z.pending) z.pending) z.pending.length 0 = true

theorem all_gd {h : List Cell} {P : List Int} (ha : allF (gd h P) P.length 0 = true) : ∀ x ∈ P, 0 ≤ x ∧ x < h.length := fun x hx => by
  obtain ⟨k, hk⟩ := List.mem_iff_getElem?.1 hx
  have hkl := (List.getElem?_eq_some_iff.1 hk).1
  have := (allF_iff (Nat.zero_le _)).1 ha k (Nat.zero_le _) hkl
  obtain ⟨a, b, _⟩ := (gd_iff hk).1 this
  exact ⟨a, b⟩

theorem ValidLazy_both {z : Lazy} (L : Lz z) {N : Nat} (hN : 2000000 ≤ N) : ∃ b, spec_ValidLazy N z = some b ∧ impl_ValidLazy N z = some b ∧ (b = true ↔ LV z) := by
  have hl := L.plen
  have H := L.hp
  have hc := H.len
  have p1 := pend_L1 L hN (Nat.zero_le _) (by omega : z.pending.length - 0 < N)
  have p2 := pend_L2 (z := z) hc (Nat.zero_le _) (by omega : z.cells.length - 0 < N)
  have q1 := impl_pend_L1 (h := z.cells) hc (Nat.zero_le _) (by omega : z.cells.length - 0 < N)
  have q2 := impl_pend_L2 L (Nat.zero_le _) (by omega : z.pending.length - 0 < N)
  rw [show ((0 : Nat) : Int) = 0 from rfl] at p1 p2 q1 q2
  rw [List.drop_zero] at p2 q1
  rw [List.take_zero, rs_nil] at q2
  unfold spec_ValidLazy spec_validLazy spec_validPending impl_ValidLazy impl_checkedLazy slices_Clone_impl_Cell_impl_Cell
  rw [app_ok [] z.cells 40 (by simp; omega) (by simp; omega)]
  simp only [Option.bind_some, List.nil_append]
  rw [p1, p2, q1, q2]
  unfold LV
  cases h2 : nonneg z.cells with
  | false =>
    refine ⟨false, ?_, by simp, by simp⟩
    cases allF (gd z.cells z.pending) z.pending.length 0 <;> simp
  | true =>
    cases h1 : allF (gd z.cells z.pending) z.pending.length 0 with
    | false => exact ⟨false, by simp, by simp, by simp⟩
    | true =>
      have Hr := rs_hp H z.pending
      obtain ⟨b, r, v1, _, v2, _, v3, v4⟩ := valid_both Hr hN
      simp only [if_true, Sh.cont_inr, Option.bind_some, Bool.not_true, Bool.false_eq_true, if_false]
      rw [raised_eq L h1 hN]
      simp only [Option.bind_some]
      rw [v1, v2]
      simp only [Option.bind_some]
      cases b with
      | false => exact ⟨false, by simp, by simp, by simp; intro hv; exact absurd (v3.2 hv) (by simp)⟩
      | true =>
        obtain rfl := v4 rfl
        have V := v3.1 rfl
        have hin := all_gd h1
        have hin' : ∀ x ∈ z.pending, 0 ≤ x ∧ x < (rs z.cells z.pending).length := by rw [rs_len]; exact hin
        have l1 := lazy_L1 L hin' (Nat.zero_le _) (by omega : z.pending.length - 0 < N)
        obtain ⟨r, c1, c2, c3⟩ := contains_L1 hl hin' (Nat.zero_le _) (by omega : z.pending.length - 0 < N)
        rw [show ((0 : Nat) : Int) = 0 from rfl] at l1 c1
        rw [refsOf_eq Hr hN]
        simp only [Option.bind_some, Bool.not_true, Bool.false_eq_true, if_false]
        unfold slices_ContainsFunc_int_int slices_IndexFunc_int_int
        rw [l1, c1]
        cases h3 : allF (zr (rs z.cells z.pending) z.pending) z.pending.length 0 with
        | true =>
          rw [c2 h3]
          exact ⟨true, by simp, by simp, by simp [V]⟩
        | false =>
          obtain ⟨k, hk⟩ := c3 h3
          rw [hk]
          exact ⟨false, by simp, by simp, by simp⟩

theorem FnExactValidLazy_plain {z : Lazy} (H : LazyIn z) : laws_FnExactValidLazy 2000000 z = some true := by
  unfold laws_FnExactValidLazy
  rw [szLazy_eq H (Nat.le_refl _)]
  by_cases hs : hsize z.cells + z.pending.length ≤ 1048576
  · have L : Lz z := ⟨hs, H.cells.1, H.pending.1⟩
    obtain ⟨b, e1, e2, _⟩ := ValidLazy_both L (Nat.le_refl 2000000)
    rw [if_pos hs]
    simp only [Option.bind_some]
    rw [if_neg (by simp; omega), toLazy_eq L (Nat.le_refl _)]
    simp only [Option.bind_some]
    rw [e1, e2]
    simp [eqLazy_eq L (Nat.le_refl 2000000)]
  · rw [if_neg hs]; simp
end RC
