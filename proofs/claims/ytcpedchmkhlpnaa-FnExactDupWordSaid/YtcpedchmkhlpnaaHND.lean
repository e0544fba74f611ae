/- A reference more, a cell more: both ways. Comparisons of what is the same. -/
import Derived.Test.YtcpedchmkhlpnaaHNC
namespace RC
open Go

theorem equalInts_L1_eq {l : List Int} (hl : l.length ≤ 1048576) {N i : Nat} (hi : i ≤ l.length) (hN : l.length - i < N) : laws_equalInts_L1 l l N i = some (Sum.inr ()) := by
  refine loop_ind l.length (fun N i => laws_equalInts_L1 l l N i = some (Sum.inr ())) ?_ ?_ hi hN
  · intro n
    rw [laws_equalInts_L1, if_neg (by simp [len_def])]
  · intro n i hi ih
    obtain ⟨x, hx, _⟩ := at_lt hi
    rw [laws_equalInts_L1, if_pos (by simp [len_def]; omega), get_lt hx]
    simp only [Option.bind_some]
    rw [w_id (by omega) (by omega), show ((i : Int) + 1) = ((i + 1 : Nat) : Int) by omega]
    simpa using ih
theorem equalInts_eq {l : List Int} (hl : l.length ≤ 1048576) {N : Nat} (hN : 2000000 ≤ N) : laws_equalInts N l l = some true := by
  unfold laws_equalInts
  have := equalInts_L1_eq hl (Nat.zero_le _) (by omega : l.length - 0 < N)
  rw [show ((0 : Nat) : Int) = 0 from rfl] at this
  simp [this]
theorem equalCell_eq {c : Cell} (hl : c.fields.length ≤ 1048576) {N : Nat} (hN : 2000000 ≤ N) : laws_equalCell N c c = some true := by
  unfold laws_equalCell
  simp [equalInts_eq hl hN]
theorem equalHeap_L1_eq {h : List Cell} (hl : h.length ≤ 1048576) (hf : ∀ c ∈ h, c.fields.length ≤ 1048576) {M : Nat} (hM : 2000000 ≤ M) {N i : Nat} (hi : i ≤ h.length) (hN : h.length - i < N) : laws_equalHeap_L1 M h h N i = some (Sum.inr ()) := by
  refine loop_ind h.length (fun N i => laws_equalHeap_L1 M h h N i = some (Sum.inr ())) ?_ ?_ hi hN
  · intro n
    rw [laws_equalHeap_L1, if_neg (by simp [len_def])]
  · intro n i hi ih
    obtain ⟨x, hx, hxm⟩ := at_lt hi
    rw [laws_equalHeap_L1, if_pos (by simp [len_def]; omega), get_lt hx]
    simp only [Option.bind_some]
    rw [equalCell_eq (hf x hxm) hM, w_id (by omega) (by omega), show ((i : Int) + 1) = ((i + 1 : Nat) : Int) by omega]
    simpa using ih
theorem equalHeap_eq {h : List Cell} (H : Hp h) {N : Nat} (hN : 2000000 ≤ N) : laws_equalHeap N h h = some true := by
  have hl := H.len
  unfold laws_equalHeap
  have := equalHeap_L1_eq hl (fun c hc => H.flen hc) hN (Nat.zero_le _) (by omega : h.length - 0 < N)
  rw [show ((0 : Nat) : Int) = 0 from rfl] at this
  simp [this]
theorem Hp.nil : Hp [] := ⟨by simp [hsize, fsum], by simp⟩

/-! ### A cell at a place -/

/-- The heap with a cell put at a place. -/
def pt (h : List Cell) (j : Nat) (c : Cell) : List Cell := h.set j c
theorem cat_pt {h : List Cell} {j : Nat} {c : Cell} (hj : j < h.length) (k : Nat) : cat (h.set j c) k = if k = j then c else cat h k := by
  unfold cat
  rw [List.getElem?_set]
  by_cases e : k = j
  · subst e; simp [hj]
  · have e' : ¬ j = k := fun h => e h.symm
    simp [e, e']
theorem cat_app {h : List Cell} {c : Cell} (k : Nat) : cat (h ++ [c]) k = if k = h.length then c else cat h k := by
  unfold cat
  by_cases e : k = h.length
  · subst e; simp
  · rw [if_neg e]
    by_cases h1 : k < h.length
    · rw [List.getElem?_append_left h1]
    · rw [List.getElem?_append_right (by omega), List.getElem?_eq_none (by simp; omega), List.getElem?_eq_none (by omega)]
theorem fsum_set {h : List Cell} {j : Nat} {c : Cell} (hj : j < h.length) : fsum (h.set j c) + (fl h j).length = fsum h + c.fields.length := by
  have e1 : h = h.take j ++ cat h j :: h.drop (j + 1) := by
    have := drop_cons (cat_lt hj)
    rw [← this, List.take_append_drop]
  have e2 : h.set j c = h.take j ++ c :: h.drop (j + 1) := by rw [List.set_eq_take_append_cons_drop, if_pos hj]
  have e3 : fsum h = fsum (h.take j) + ((cat h j).fields.length + fsum (h.drop (j + 1))) := by
    conv => lhs; rw [e1]
    rw [fsum_append]; simp [fsum]
  rw [e2, fsum_append, fl_cat]
  have e4 : fsum (c :: h.drop (j + 1)) = c.fields.length + fsum (h.drop (j + 1)) := by simp [fsum]
  rw [e4]; omega

/-! ### A reference more -/

def dup (h : List Cell) (w : Int) : List Cell := if 1000 ≤ w then h.set (w - 1000).toNat ⟨ct h (w - 1000).toNat + 1, (cat h (w - 1000).toNat).tag, (cat h (w - 1000).toNat).fields⟩ else h
def mayDup (h : List Cell) (w : Int) : Prop := VH h ∧ wordW h w = true ∧ (1000 ≤ w → ct h (w - 1000).toNat ≠ 999999)

theorem DupWord_both {h : List Cell} {w : Int} (H : Hp h) (hw : I64 w) {N : Nat} (hN : 2000000 ≤ N) : ∃ b, spec_DupWord N h w = some (if b then dup h w else [], b) ∧ impl_DupWord N h w = some (if b then dup h w else [], b) ∧ (b = true ↔ mayDup h w) := by
  have hl := H.len
  obtain ⟨b, r, h1, _, _, h2, h3, _⟩ := valid_both H hN
  unfold spec_DupWord impl_DupWord
  rw [h1, h2]
  simp only [Option.bind_some]
  cases b with
  | false => exact ⟨false, by simp, by simp, by simp [mayDup]; intro hv; exact absurd (h3.2 hv) (by simp)⟩
  | true =>
    have V := h3.1 rfl
    rw [isWord_eq hl hw, wordValid_eq hl hw]
    simp only [Option.bind_some, Bool.not_true, Bool.false_eq_true, if_false]
    cases hword : wordW h w with
    | false => exact ⟨false, by simp, by simp, by simp [mayDup, hword]⟩
    | true =>
      simp only [Bool.not_true, Bool.false_eq_true, if_false]
      rw [copyHeap_eq H hN, cloneHeap_eq H hN, liveAt_eq hl hw]
      simp only [Option.bind_some, spec_isPointer]
      by_cases hp : 1000 ≤ w
      · have hlv : 0 < ct h (w - 1000).toNat := by have := hword; rw [wordW_ptr hp] at this; simpa using this
        have hj : (w - 1000).toNat < h.length := ct_lt (by omega)
        have hlw : liveW h w = true := by rw [ptr_eq hp, liveW_ct]; simpa using hlv
        rw [if_pos (by simpa using hp), hlw, cat_get hp hw hj]
        simp only [Option.bind_some, if_true]
        by_cases he : (cat h (w - 1000).toNat).count = 999999
        · refine ⟨false, by simp [he], by simp [he], ?_⟩
          simp only [Bool.false_eq_true, false_iff]
          intro M
          exact M.2.2 hp he
        · have hc := H.ct_I64 (w - 1000).toNat
          have hcell := (cellS_iff _ _).1 (V.cell (w - 1000).toNat)
          have hwc : Sh.w ((cat h (w - 1000).toNat).count + 1) = ct h (w - 1000).toNat + 1 := w_id (by omega) (by omega)
          obtain ⟨w1, w2⟩ := hw
          have hput : Sh.put h (Sh.w (w - 1000)) ⟨ct h (w - 1000).toNat + 1, (cat h (w - 1000).toNat).tag, (cat h (w - 1000).toNat).fields⟩ = dup h w := by
            unfold dup
            rw [if_pos hp, w_id (by omega) (by omega)]; rfl
          refine ⟨true, ?_, ?_, by simp only [true_iff]; exact ⟨V, hword, fun _ => he⟩⟩
          · rw [if_neg (by simpa using he), hwc, hput]; rfl
          · rw [if_neg (by simpa using he), hwc, hput]; rfl
      · refine ⟨true, ?_, ?_, by simp only [true_iff]; exact ⟨V, hword, fun h1 => absurd h1 hp⟩⟩
        · rw [if_neg (by simpa using hp)]; simp [dup, hp]
        · rw [liveW_low hp]; simp [dup, hp]

theorem cat_dup {h : List Cell} {w : Int} (hp : 1000 ≤ w) (hj : (w - 1000).toNat < h.length) (k : Nat) : cat (dup h w) k = if k = (w - 1000).toNat then ⟨ct h k + 1, (cat h k).tag, (cat h k).fields⟩ else cat h k := by
  unfold dup
  rw [if_pos hp, cat_pt hj]
  by_cases e : k = (w - 1000).toNat
  · subst e; simp
  · simp [e]
theorem len_dup (h : List Cell) (w : Int) : (dup h w).length = h.length := by unfold dup; split <;> simp

/-- A count that is greater and not too great: the heap is valid still. -/
theorem VH.more {h g : List Cell} (V : VH h) (hlen : g.length = h.length) {x : Nat} (hx : 0 < ct h x) (hc : ct h x < 999999) (hg : ∀ k, cat g k = if k = x then ⟨ct h k + 1, (cat h k).tag, (cat h k).fields⟩ else cat h k) : VH g := by
  have hct : ∀ k, ct g k = if k = x then ct h k + 1 else ct h k := fun k => by unfold ct; rw [hg]; split <;> rfl
  have hfl : ∀ k, fl g k = fl h k := fun k => by rw [fl_cat, fl_cat, hg]; split <;> rfl
  have hpos : ∀ k, 0 < ct g k ↔ 0 < ct h k := fun k => by
    rw [hct]; split
    · rename_i e; subst e; omega
    · rfl
  have hin : ∀ k, inA g k = inA h k := fun k => by
    show inn g _ k g.length = inn h _ k h.length
    rw [hlen]
    exact inn_congr fun i _ => by rw [hfl]
  have hwd : ∀ w, wordW g w = wordW h w := fun w => by
    by_cases hw : 1000 ≤ w
    · rw [wordW_ptr hw, wordW_ptr hw]
      exact decide_eq_decide.2 (hpos _)
    · rw [wordW_int hw, wordW_int hw]
  obtain ⟨rk, hrk⟩ := V.rk
  refine VH.of ?_ (fun j hj => ?_) (fun j hj => ?_) rk fun i j hj hp => hrk i j ((hpos j).1 hj) (by rwa [hfl] at hp)
  · have := V.last
    rw [lastFree_ct] at this ⊢
    rw [hlen]
    rcases this with h1 | h1
    · exact .inl h1
    · refine .inr ?_
      rw [hct]; split
      · rename_i e; rw [e]; omega
      · exact h1
  · obtain ⟨a1, a2, a3, a4, a5⟩ := (cellS_iff _ _).1 (V.cell j)
    rw [cellS_iff, hg]
    by_cases e : j = x
    · subst e
      simp only [if_true]
      obtain ⟨b1, b2, b3⟩ := a5 (by unfold ct at hx; omega)
      exact ⟨a1, by unfold ct at hx ⊢; omega, by omega, fun h => by omega, fun _ => ⟨fun w hw => by rw [hwd]; exact b1 w hw, b2, b3⟩⟩
    · simp only [e, if_false]
      exact ⟨a1, a2, a3, a4, fun h => ⟨fun w hw => by rw [hwd]; exact (a5 h).1 w hw, (a5 h).2⟩⟩
  · rw [hin]
    have := V.cnt ((hpos j).1 hj)
    rw [hct]; split <;> omega

/-! ### A cell more -/

def fst (h : List Cell) : Nat → Nat → Nat
  | 0, i => i
  | k + 1, i => if ct h i = 0 then i else fst h k (i + 1)
/-- The first free place. -/
def ff (h : List Cell) : Nat := fst h h.length 0
theorem fst_spec (h : List Cell) : ∀ k i, i ≤ fst h k i ∧ fst h k i ≤ i + k ∧ (∀ j, i ≤ j → j < fst h k i → ct h j ≠ 0) ∧ (fst h k i < i + k → ct h (fst h k i) = 0) := by
  intro k
  induction k with
  | zero => intro i; exact ⟨Nat.le_refl _, Nat.le_refl _, fun j h1 h2 => by simp only [fst] at h2; omega, fun h => by simp only [fst] at h; omega⟩
  | succ k ih =>
    intro i
    unfold fst
    split
    · rename_i h0
      exact ⟨Nat.le_refl _, by omega, fun j h1 h2 => by omega, fun _ => h0⟩
    · rename_i h0
      obtain ⟨a, b, c, d⟩ := ih (i + 1)
      refine ⟨by omega, by omega, fun j h1 h2 => ?_, fun h => d (by omega)⟩
      by_cases e : j = i
      · subst e; exact h0
      · exact c j (by omega) h2
theorem ff_le (h : List Cell) : ff h ≤ h.length := by have := (fst_spec h h.length 0).2.1; unfold ff; omega
theorem ff_before (h : List Cell) {j : Nat} (hj : j < ff h) : ct h j ≠ 0 := (fst_spec h h.length 0).2.2.1 j (Nat.zero_le _) hj
theorem ff_free (h : List Cell) : ct h (ff h) = 0 := by
  by_cases h1 : ff h < h.length
  · exact (fst_spec h h.length 0).2.2.2 (by unfold ff at h1; omega)
  · unfold ct; rw [cat_ge (by omega)]

theorem freeIndex_L1 {h : List Cell} (hl : h.length ≤ 1048576) {N i : Nat} (hi : i ≤ h.length) (hN : h.length - i < N) : spec_freeIndex_L1 h N i = some (if fst h (h.length - i) i < h.length then Sum.inl ((fst h (h.length - i) i : Nat) : Int) else Sum.inr ()) := by
  refine loop_ind h.length (fun N i => spec_freeIndex_L1 h N i = some (if fst h (h.length - i) i < h.length then Sum.inl ((fst h (h.length - i) i : Nat) : Int) else Sum.inr ())) ?_ ?_ hi hN
  · intro n
    rw [spec_freeIndex_L1, if_neg (by simp [len_def])]
    simp [fst]
  · intro n i hi ih
    rw [spec_freeIndex_L1, if_pos (by simp [len_def]; omega), get_lt (cat_lt hi)]
    simp only [Option.bind_some]
    obtain ⟨k, hk⟩ : ∃ k, h.length - i = k + 1 := ⟨h.length - i - 1, by omega⟩
    rw [hk]
    unfold fst
    by_cases h0 : (cat h i).count = 0
    · rw [if_pos (by simpa using h0), if_pos (show ct h i = 0 from h0), if_pos hi]
    · rw [if_neg (by simpa using h0), if_neg (show ¬ ct h i = 0 from h0), w_id (by omega) (by omega), show ((i : Int) + 1) = ((i + 1 : Nat) : Int) by omega, ih, show h.length - (i + 1) = k by omega]
theorem freeIndex_eq {h : List Cell} (hl : h.length ≤ 1048576) {N : Nat} (hN : 2000000 ≤ N) : spec_freeIndex N h = some ((ff h : Nat) : Int) := by
  unfold spec_freeIndex
  have := freeIndex_L1 hl (Nat.zero_le _) (by omega : h.length - 0 < N)
  rw [show ((0 : Nat) : Int) = 0 from rfl, Nat.sub_zero] at this
  rw [this]
  have hle := ff_le h
  unfold ff at hle ⊢
  by_cases h1 : fst h h.length 0 < h.length
  · rw [if_pos h1]; rfl
  · rw [if_neg h1]
    simp only [Sh.cont_inr, len_def]
    congr 2; omega
theorem indexFunc_L1 {h : List Cell} (hl : h.length ≤ 1048576) {N i : Nat} (hi : i ≤ h.length) (hN : h.length - i < N) : slices_IndexFunc_impl_heap_impl_Cell_L1 h N i = some (if fst h (h.length - i) i < h.length then Sum.inl ((fst h (h.length - i) i : Nat) : Int) else Sum.inr ()) := by
  refine loop_ind h.length (fun N i => slices_IndexFunc_impl_heap_impl_Cell_L1 h N i = some (if fst h (h.length - i) i < h.length then Sum.inl ((fst h (h.length - i) i : Nat) : Int) else Sum.inr ())) ?_ ?_ hi hN
  · intro n
    rw [slices_IndexFunc_impl_heap_impl_Cell_L1, if_neg (by simp [len_def])]
    simp [fst]
  · intro n i hi ih
    rw [slices_IndexFunc_impl_heap_impl_Cell_L1, if_pos (by simp [len_def]; omega), get_lt (cat_lt hi)]
    simp only [Option.bind_some, impl_heap_alloc_1]
    obtain ⟨k, hk⟩ : ∃ k, h.length - i = k + 1 := ⟨h.length - i - 1, by omega⟩
    rw [hk]
    unfold fst
    by_cases h0 : (cat h i).count = 0
    · rw [if_pos (by simpa using h0), if_pos (show ct h i = 0 from h0), if_pos hi]
    · rw [if_neg (by simpa using h0), if_neg (show ¬ ct h i = 0 from h0), w_id (by omega) (by omega), show ((i : Int) + 1) = ((i + 1 : Nat) : Int) by omega, ih, show h.length - (i + 1) = k by omega]
theorem indexFunc_eq {h : List Cell} (hl : h.length ≤ 1048576) {N : Nat} (hN : 2000000 ≤ N) : slices_IndexFunc_impl_heap_impl_Cell N h = some (if ff h < h.length then ((ff h : Nat) : Int) else -1) := by
  unfold slices_IndexFunc_impl_heap_impl_Cell
  have := indexFunc_L1 hl (Nat.zero_le _) (by omega : h.length - 0 < N)
  rw [show ((0 : Nat) : Int) = 0 from rfl, Nat.sub_zero] at this
  rw [this]
  unfold ff
  by_cases h1 : fst h h.length 0 < h.length
  · rw [if_pos h1, if_pos h1]; rfl
  · rw [if_neg h1, if_neg h1]; rfl

/-- The heap with a cell at the first free place. -/
def alc (h : List Cell) (c : Cell) : List Cell := if ff h < h.length then h.set (ff h) c else h ++ [c]
theorem cat_alc (h : List Cell) (c : Cell) (k : Nat) : cat (alc h c) k = if k = ff h then c else cat h k := by
  unfold alc
  split
  · rename_i h1; exact cat_pt h1 k
  · rename_i h1
    have : ff h = h.length := by have := ff_le h; omega
    rw [this]; exact cat_app k
theorem len_alc (h : List Cell) (c : Cell) : (alc h c).length = if ff h < h.length then h.length else h.length + 1 := by unfold alc; split <;> simp
theorem ff_lt_alc (h : List Cell) (c : Cell) : ff h < (alc h c).length := by rw [len_alc]; have := ff_le h; split <;> omega
theorem Hp.alc {h : List Cell} {c : Cell} (H : Hp h) (hs : hsize h + 1 + c.fields.length ≤ 1048576) (hc : CellIn c) : Hp (alc h c) := by
  refine ⟨?_, fun d hd => ?_⟩
  · unfold RC.alc
    split
    · rename_i h1
      have := fsum_set (c := c) h1
      unfold hsize at hs ⊢
      rw [List.length_set]; omega
    · unfold hsize at hs ⊢
      rw [fsum_append, List.length_append]
      have : fsum [c] = c.fields.length := by simp [fsum]
      rw [this]; simp; omega
  · unfold RC.alc at hd
    split at hd
    · rcases List.mem_or_eq_of_mem_set hd with h1 | h1
      · exact H.cells d h1
      · rw [h1]; exact hc
    · rcases List.mem_append.1 hd with h1 | h1
      · exact H.cells d h1
      · rw [List.mem_singleton] at h1; rw [h1]; exact hc

theorem place_eq {h : List Cell} {t : Int} {fs : List Int} (hl : h.length ≤ 1048576) (hf : fs.length ≤ 1048576) : spec_place h ((ff h : Nat) : Int) t fs = some (alc h ⟨1, t, fs⟩) := by
  unfold spec_place
  rw [copyInts_eq hf, len_def]
  simp only [Option.bind_some]
  have hle := ff_le h
  unfold alc
  by_cases h1 : ff h < h.length
  · rw [if_neg (by simp; omega), if_pos h1, get_lt (cat_lt h1)]
    simp only [Option.bind_some]
    rw [put_nat]
  · rw [if_pos (by simp; omega), if_neg h1, app_ok _ _ 40 (by simp; omega) (by simp; omega)]; rfl
theorem heapAlloc_eq {h : List Cell} {t : Int} {fs : List Int} (hl : h.length ≤ 1048576) (hf : fs.length ≤ 1048576) {N : Nat} (hN : 2000000 ≤ N) : impl_heap_alloc N h t fs = some (1000 + (ff h : Int), alc h ⟨1, t, fs⟩) := by
  unfold impl_heap_alloc
  rw [clone_eq _ hf, indexFunc_eq hl hN, len_def]
  simp only [Option.bind_some]
  have hle := ff_le h
  unfold alc
  by_cases h1 : ff h < h.length
  · rw [if_pos h1, if_neg (by simp), if_pos h1, get_lt (cat_lt h1)]
    simp only [Option.bind_some]
    rw [put_nat, w_id (by omega) (by omega)]
  · rw [if_neg h1, if_pos (by simp), if_neg h1, app_ok _ _ 40 (by simp; omega) (by simp; omega)]
    simp only [Option.bind_some]
    rw [w_id (by omega) (by omega), show h.length = ff h by omega]

theorem alloc_L1 {h : List Cell} (hl : h.length ≤ 1048576) {fs : List Int} (hf : fs.length ≤ 1048576) (hF : ∀ x ∈ fs, I64 x) {N i : Nat} (hi : i ≤ fs.length) (hN : fs.length - i < N) : spec_AllocCell_L1 h fs N i = some (if (fs.drop i).all (wordW h) then Sum.inr () else Sum.inl ([], 0)) := by
  refine loop_ind fs.length (fun N i => spec_AllocCell_L1 h fs N i = some (if (fs.drop i).all (wordW h) then Sum.inr () else Sum.inl ([], 0))) ?_ ?_ hi hN
  · intro n
    rw [spec_AllocCell_L1, if_neg (by simp [len_def])]; simp
  · intro n i hi ih
    obtain ⟨x, hx, hxm⟩ := at_lt hi
    rw [spec_AllocCell_L1, if_pos (by simp [len_def]; omega), get_lt hx]
    simp only [Option.bind_some]
    rw [isWord_eq hl (hF x hxm), w_id (by omega) (by omega), show ((i : Int) + 1) = ((i + 1 : Nat) : Int) by omega, ih, all_drop hx]
    cases wordW h x <;> simp

def mayAlloc (h : List Cell) (t : Int) (fs : List Int) : Prop := VH h ∧ VH (alc h ⟨1, t, fs⟩)

/-- A new cell's fields are words of the heap as it was. -/
theorem alloc_words {h : List Cell} {t : Int} {fs : List Int} (V : VH (alc h ⟨1, t, fs⟩)) : ∀ x ∈ fs, wordW h x = true := fun x hx => by
  have hc := cat_alc h ⟨1, t, fs⟩ (ff h)
  rw [if_pos rfl] at hc
  obtain ⟨_, _, _, _, a⟩ := (cellS_iff _ _).1 (V.cell (ff h))
  rw [hc] at a
  have h1 := (a (by simp)).1 x hx
  by_cases hp : 1000 ≤ x
  · rw [wordW_ptr hp] at h1 ⊢
    have h2 : 0 < ct (alc h ⟨1, t, fs⟩) (x - 1000).toNat := by simpa using h1
    by_cases e : (x - 1000).toNat = ff h
    · exfalso
      obtain ⟨rk, hrk⟩ := V.rk
      have := hrk (ff h) (ff h) (by rw [← e]; exact h2) (pc_pos.2 (by rw [fl_cat, hc, ← e, ← ptr_eq hp]; exact hx))
      omega
    · unfold ct at h2
      rw [cat_alc, if_neg e] at h2
      exact decide_eq_true h2
  · rw [wordW_int hp] at h1 ⊢; exact h1

theorem AllocCell_both {h : List Cell} {t : Int} {fs : List Int} (H : Hp h) (hs : hsize h + 1 + fs.length ≤ 1048576) (ht : I64 t) (hF : ∀ x ∈ fs, I64 x) {N : Nat} (hN : 2000000 ≤ N) :
    ∃ b : Bool, spec_AllocCell N h t fs = some (if b then (alc h ⟨1, t, fs⟩, 1000 + (ff h : Int)) else ([], 0)) ∧ impl_AllocCell N h t fs = some (if b then (alc h ⟨1, t, fs⟩, 1000 + (ff h : Int)) else ([], 0)) ∧ (b = true ↔ mayAlloc h t fs) := by
  have hl := H.len
  have hf : fs.length ≤ 1048576 := by omega
  obtain ⟨b, r, h1, _, _, h2, h3, _⟩ := valid_both H hN
  unfold spec_AllocCell impl_AllocCell
  rw [h1, h2]
  simp only [Option.bind_some]
  cases b with
  | false => exact ⟨false, by simp, by simp, by simp [mayAlloc]; intro hv; exact absurd (h3.2 hv) (by simp)⟩
  | true =>
    have V := h3.1 rfl
    have Ha : Hp (alc h ⟨1, t, fs⟩) := H.alc hs ⟨⟨by show (-9223372036854775808 : Int) ≤ 1; decide, by show (1 : Int) ≤ 9223372036854775807; decide⟩, ht, hF, by show fs.length ≤ 9223372036854775807; omega⟩
    obtain ⟨b', r', g1, _, _, g2, g3, _⟩ := valid_both Ha hN
    have hL := alloc_L1 hl hf hF (Nat.zero_le _) (by omega : fs.length - 0 < N)
    rw [show ((0 : Nat) : Int) = 0 from rfl, List.drop_zero] at hL
    have hle := ff_le h
    rw [freeIndex_eq hl hN, copyHeap_eq H hN, cloneHeap_eq H hN]
    simp only [Option.bind_some, Bool.not_true, Bool.false_eq_true, if_false]
    rw [hL, place_eq hl hf, heapAlloc_eq hl hf hN]
    simp only [Option.bind_some]
    rw [g1, g2, w_id (by omega) (by omega)]
    simp only [Option.bind_some]
    cases b' with
    | false =>
      refine ⟨false, ?_, by simp, by simp [mayAlloc]; intro _ hv; exact absurd (g3.2 hv) (by simp)⟩
      cases fs.all (wordW h) <;> simp
    | true =>
      have Va := g3.1 rfl
      have hall : fs.all (wordW h) = true := List.all_eq_true.2 (alloc_words Va)
      exact ⟨true, by simp [hall], by simp, by simp [mayAlloc, V, Va]⟩
end RC
