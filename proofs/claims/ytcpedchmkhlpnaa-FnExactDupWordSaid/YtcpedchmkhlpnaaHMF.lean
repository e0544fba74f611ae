import Derived.Test.YtcpedchmkhlpnaaHME
namespace RC
open Go

/-! ### A heap is valid: both ways say the same -/

def lastFree (h : List Cell) : Bool := match h[h.length - 1]? with | some c => decide (c.count = 0) | none => false

structure VH (h : List Cell) : Prop where
  last : lastFree h = false
  cells : ∀ c ∈ h, cellS h c = true
  counts : ∀ j, j < h.length → okS h j = true
  ranked : Ranked h

theorem last_eq {h : List Cell} (hl : h.length ≤ 1048576) : (if (decide (0 < (Sh.len h))) = true then Option.bind (Sh.get h (Sh.w ((Sh.len h) - 1))) fun c => some (decide (c.count = 0)) else some false) = some (lastFree h) := by
  rw [len_def]
  unfold lastFree
  by_cases h0 : h.length = 0
  · have : h = [] := List.eq_nil_of_length_eq_zero h0
    subst this; rfl
  · obtain ⟨c, hc, _⟩ := at_lt (l := h) (i := h.length - 1) (by omega)
    rw [if_pos (by simp; omega), w_id (by omega) (by omega), show ((h.length : Int) - 1) = ((h.length - 1 : Nat) : Int) by omega, get_lt hc, hc]
    rfl

theorem wf_of {h : List Cell} (hc : ∀ c ∈ h, cellI h c = true) : WF h := fun c hcm w hw => by
  have := hc c hcm
  unfold cellI at this
  simp only [Bool.and_eq_true] at this
  have h2 := List.all_eq_true.1 this.2 w hw
  simp only [Bool.and_eq_true] at h2
  exact h2.1
theorem cellS_I {h : List Cell} {c : Cell} (hc : cellS h c = true) : cellI h c = true ∧ c.count ≤ 999999 := by
  rw [cellS_eq, Bool.and_eq_true, decide_eq_true_eq] at hc; exact hc
theorem VH.wf {h : List Cell} (H : VH h) : WF h := wf_of fun c hc => (cellS_I (H.cells c hc)).1

theorem valid_L1_eq {h : List Cell} (H : Hp h) {M : Nat} (hM : 2000000 ≤ M) {N i : Nat} (hi : i ≤ h.length) (hN : h.length - i < N) : spec_validHeap_L1 M h N i = some (if (h.drop i).all (cellS h) then Sum.inr () else Sum.inl false) := by
  have hl := H.len
  refine loop_ind h.length (fun N i => spec_validHeap_L1 M h N i = some (if (h.drop i).all (cellS h) then Sum.inr () else Sum.inl false)) ?_ ?_ hi hN
  · intro n
    rw [spec_validHeap_L1, if_neg (by simp [len_def])]; simp
  · intro n i hi ih
    obtain ⟨c, hc, hcm⟩ := at_lt hi
    rw [spec_validHeap_L1, if_pos (by simp [len_def]; omega), get_lt hc]
    simp only [Option.bind_some]
    rw [validCell_eq hl (H.flen hcm) (H.cells c hcm).fields hM, w_id (by omega) (by omega), show ((i : Int) + 1) = ((i + 1 : Nat) : Int) from rfl, ih, all_drop hc]
    cases cellS h c <;> simp

theorem spec_valid {h : List Cell} (H : Hp h) {N : Nat} (hN : 2000000 ≤ N) : ∃ b, spec_validHeap N h = some b ∧ (b = true ↔ VH h) := by
  have hl := H.len
  unfold spec_validHeap
  rw [last_eq hl]
  simp only [Option.bind_some]
  cases h1 : lastFree h with
  | true => exact ⟨false, by simp, (by simp; intro hv; rw [hv.last] at h1; cases h1)⟩
  | false =>
    have e1 := valid_L1_eq H hN (Nat.zero_le _) (by omega : h.length - 0 < N)
    rw [show ((0 : Nat) : Int) = 0 from rfl, List.drop_zero] at e1
    simp only [Bool.false_eq_true, if_false]
    rw [e1, refsOf_eq H hN]
    cases h2 : h.all (cellS h) with
    | false =>
      refine ⟨false, by simp, ?_⟩
      simp only [Bool.false_eq_true, false_iff]
      intro hv
      have := List.all_eq_true.2 hv.cells
      rw [h2] at this; cases this
    | true =>
      have hcells := List.all_eq_true.1 h2
      simp only [if_true, Sh.cont_inr, Option.bind_some]
      have e2 := valid_L2_eq hl (Nat.zero_le _) (by omega : h.length - 0 < N)
      rw [show ((0 : Nat) : Int) = 0 from rfl] at e2
      rw [e2]
      cases h3 : allF (okS h) h.length 0 with
      | false =>
        refine ⟨false, by simp, ?_⟩
        simp only [Bool.false_eq_true, false_iff]
        intro hv
        have := (allF_iff (p := okS h) (Nat.zero_le _)).2 fun j _ hj => hv.counts j hj
        rw [h3] at this; cases this
      | true =>
        have hcnt := (allF_iff (p := okS h) (Nat.zero_le _)).1 h3
        obtain ⟨b, f1, f2⟩ := isAcyclic_eq H (wf_of fun c hc => (cellS_I (hcells c hc)).1) hN
        simp only [if_true, Sh.cont_inr]
        rw [f1]
        exact ⟨b, rfl, f2.trans ⟨fun hr => ⟨h1, hcells, fun j hj => hcnt j (Nat.zero_le _) hj, hr⟩, fun hv => hv.ranked⟩⟩

theorem spec_ValidHeap_eq {h : List Cell} (H : Hp h) {N : Nat} (hN : 2000000 ≤ N) : ∃ b, spec_ValidHeap N h = some b ∧ (b = true ↔ VH h) := by
  obtain ⟨b, h1, h2⟩ := spec_valid H hN
  exact ⟨b, by unfold spec_ValidHeap; rw [h1]; rfl, h2⟩

theorem okI_eq {h : List Cell} {j : Nat} {c : Cell} (hc : h[j]? = some c) : okI h j = true ↔ okS h j = true ∧ (0 < c.count → c.count ≤ 999999) := by
  unfold okI okS
  rw [hc]
  by_cases h1 : 0 < c.count <;> by_cases h2 : c.count < tot h h j <;> by_cases h3 : 999999 < c.count <;> simp [h1, h2, h3] <;> omega

theorem clone_eq (l : List Int) (hl : l.length ≤ 1048576) : slices_Clone_int_int l = some l := by
  unfold slices_Clone_int_int
  rw [app_ok _ _ _ (by simp; omega) (by simp; omega)]; rfl

theorem checked_eq {h : List Cell} (H : Hp h) {N : Nat} (hN : 2000000 ≤ N) : ∃ r b, impl_checkedHeap N h = some (r, b) ∧ (b = true ↔ VH h) ∧ (b = true → r = refs h) := by
  have hl := H.len
  unfold impl_checkedHeap
  rw [last_eq hl, len_def, mk_ok _ h.length 8 (by omega) (by omega), rowOf_const]
  simp only [Option.bind_some]
  have e1 := chk_L1_eq H hN (Nat.zero_le _) (by omega : h.length - 0 < N) (fun _ => 0) (fun j => ⟨by omega, by
    have h1 := tot_le h (h.drop 0) j
    have h2 := fsum_drop_le h 0
    have h3 := H.size
    unfold hsize at h3; omega⟩)
  rw [show ((0 : Nat) : Int) = 0 from rfl, List.drop_zero] at e1
  rw [e1]
  have er : (rowOf h.length fun j => (0 : Int) + (tot h h j : Int)) = refs h := rowOf_congr fun j _ => by omega
  rw [er]
  cases h2 : h.all (cellI h) with
  | false =>
    refine ⟨[], false, by simp, ?_, by simp⟩
    simp only [Bool.false_eq_true, false_iff]
    intro hv
    have := List.all_eq_true.2 fun c hc => (cellS_I (hv.cells c hc)).1
    rw [h2] at this; cases this
  | true =>
    have hcells := List.all_eq_true.1 h2
    simp only [if_true, Sh.cont_inr]
    cases h1 : lastFree h with
    | true => exact ⟨[], false, by simp, (by simp; intro hv; rw [hv.last] at h1; cases h1), by simp⟩
    | false =>
      have hrl : (refs h).length = h.length := rowOf_len
      simp only [Bool.false_eq_true, if_false]
      rw [clone_eq _ (by omega)]
      have e2 := chk_L2_eq hl (Nat.zero_le _) (by omega : h.length - 0 < N) [] (by simp)
      rw [show ((0 : Nat) : Int) = 0 from rfl, List.nil_append, show nats [] = [] from rfl] at e2
      rw [e2]
      simp only [Option.bind_some]
      cases h3 : allF (okI h) h.length 0 with
      | false =>
        refine ⟨[], false, by simp, ?_, by simp⟩
        simp only [Bool.false_eq_true, false_iff]
        intro hv
        have := (allF_iff (p := okI h) (Nat.zero_le _)).2 fun j _ hj => by
          obtain ⟨c, hc, hcm⟩ := at_lt hj
          exact (okI_eq hc).2 ⟨hv.counts j hj, fun _ => (cellS_I (hv.cells c hcm)).2⟩
        rw [h3] at this; cases this
      | true =>
        have hcnt := (allF_iff (p := okI h) (Nat.zero_le _)).1 h3
        simp only [if_true, Sh.cont_inr]
        have hr0 : refs h = rowOf h.length fun j => ((un h (fun _ => false) j : Nat) : Int) := rowOf_congr fun j _ => by rw [un_none]
        have hK0 : KI h (fun _ => false) (zeros h 0) 0 := by
          have hz : ∀ x, x ∈ zeros h 0 ↔ x < h.length ∧ tot h h x = 0 := fun x => by
            unfold zeros
            rw [List.mem_filter, List.mem_range']
            simp
          refine ⟨?_, fun x hx => ?_, fun j hj hu => ?_, ?_, ⟨fun _ => 0, fun _ _ h => (by cases h), fun _ _ _ h => (by cases h)⟩⟩
          · exact List.Nodup.sublist List.filter_sublist List.nodup_range'
          · obtain ⟨h4, h5⟩ := (hz x).1 hx
            exact ⟨h4, rfl, by rw [un_none]; exact h5⟩
          · rw [un_none] at hu
            exact .inr ((hz j).2 ⟨hj, hu⟩)
          · have : ∀ n, cntB (fun _ => false) n = 0 := fun n => by induction n with
              | zero => rfl
              | succ n ih => rw [cntB_succ, ih]; rfl
            exact this _
        obtain ⟨p', many', f1, f2⟩ := chk_L3_eq H hN h.length N _ _ 0 hK0 (by omega) (by omega)
        rw [show ((0 : Nat) : Int) = 0 from rfl, ← hr0] at f1
        rw [f1]
        refine ⟨refs h, _, rfl, ?_, fun _ => rfl⟩
        rw [decide_eq_true_eq]
        have hm : ((many' : Nat) : Int) = (h.length : Int) ↔ many' = h.length := by omega
        rw [hm, ranked_of_taken f2]
        constructor
        · intro hr
          refine ⟨h1, fun c hc => ?_, fun j hj => ?_, hr⟩
          · rw [cellS_eq, hcells c hc, Bool.true_and, decide_eq_true_eq]
            obtain ⟨j, hj⟩ := List.mem_iff_getElem?.1 hc
            by_cases h4 : 0 < c.count
            · exact ((okI_eq hj).1 (hcnt j (Nat.zero_le _) (List.getElem?_eq_some_iff.1 hj).1)).2 h4
            · omega
          · obtain ⟨c, hc, _⟩ := at_lt hj
            exact ((okI_eq hc).1 (hcnt j (Nat.zero_le _) hj)).1
        · exact fun hv => hv.ranked

theorem bool_of {b b' : Bool} {p : Prop} (h1 : b = true ↔ p) (h2 : b' = true ↔ p) : b = b' := by
  cases b <;> cases b' <;> simp at h1 h2 <;> first | rfl | exact absurd h2 h1 | exact absurd h1 h2

theorem valid_both {h : List Cell} (H : Hp h) {N : Nat} (hN : 2000000 ≤ N) : ∃ b r, spec_validHeap N h = some b ∧ spec_ValidHeap N h = some b ∧ impl_checkedHeap N h = some (r, b) ∧ impl_ValidHeap N h = some b ∧ (b = true ↔ VH h) ∧ (b = true → r = refs h) := by
  obtain ⟨b, h1, h2⟩ := spec_valid H hN
  obtain ⟨r, b', h3, h4, h5⟩ := checked_eq H hN
  obtain rfl := bool_of h2 h4
  exact ⟨b, r, h1, by unfold spec_ValidHeap; rw [h1]; rfl, h3, by unfold impl_ValidHeap; rw [h3]; rfl, h2, h5⟩

theorem Hp.of {h : List Cell} (H : HeapIn h) (hs : hsize h ≤ 1048576) : Hp h := ⟨hs, H.1⟩

theorem FnExactValidHeap_plain {h : List Cell} (H : HeapIn h) : laws_FnExactValidHeap 2000000 h = some true := by
  unfold laws_FnExactValidHeap
  rw [szCellS_eq H (Nat.le_refl _)]
  by_cases hs : hsize h ≤ 1048576
  · have Hh := Hp.of H hs
    obtain ⟨b, r, _, h1, _, h2, _, _⟩ := valid_both Hh (Nat.le_refl 2000000)
    simp [hs, toCellS_eq Hh (Nat.le_refl 2000000), h1, h2, eqCellS_eq Hh (Nat.le_refl 2000000)]
  · simp [hs]
end RC
