/- Heaps as functions of the places; copies; what is left of a heap without the free cells at its end. -/
import Derived.Test.YtcpedchmkhlpnaaHMG
import Derived.Test.YtcpedchmkhlpnaaHBDefs
import Derived.Test.YtcpedchmkhlpnaaPlainB
namespace RC
open Go

def cat (h : List Cell) (j : Nat) : Cell := (h[j]?).getD ⟨0, 0, []⟩
def ct (h : List Cell) (j : Nat) : Int := (cat h j).count
theorem cat_of {h : List Cell} {j : Nat} {c : Cell} (hc : h[j]? = some c) : cat h j = c := by simp [cat, hc]
theorem cat_lt {h : List Cell} {j : Nat} (hj : j < h.length) : h[j]? = some (cat h j) := by
  obtain ⟨c, hc, _⟩ := at_lt hj
  rw [cat_of hc]; exact hc
theorem cat_ge {h : List Cell} {j : Nat} (hj : h.length ≤ j) : cat h j = ⟨0, 0, []⟩ := by simp [cat, List.getElem?_eq_none hj]
theorem cat_mem {h : List Cell} {j : Nat} (hj : j < h.length) : cat h j ∈ h := List.mem_of_getElem? (cat_lt hj)
theorem ct_lt {h : List Cell} {j : Nat} (hj : ct h j ≠ 0) : j < h.length := by
  by_cases h0 : j < h.length
  · exact h0
  · exact absurd (by unfold ct; rw [cat_ge (by omega)]) hj
theorem fl_cat (h : List Cell) (j : Nat) : fl h j = (cat h j).fields := by
  unfold fl cat; cases h[j]? <;> rfl
theorem rowOf_cat (h : List Cell) : rowOf h.length (cat h) = h := by
  apply List.ext_getElem?
  intro k
  by_cases hk : k < h.length
  · rw [rowOf_get hk, cat_lt hk]
  · rw [List.getElem?_eq_none (by rw [rowOf_len]; omega), List.getElem?_eq_none (by omega)]
theorem cat_rowOf {n : Nat} {f : Nat → Cell} {j : Nat} (hj : j < n) : cat (rowOf n f) j = f j := cat_of (rowOf_get hj)

/-! ### How often words point to a place -/

def pc (ws : List Int) (j : Nat) : Nat := ws.countP fun w => decide (w = 1000 + (j : Int))
theorem pc_nil (j : Nat) : pc [] j = 0 := rfl
theorem pc_append (a b : List Int) (j : Nat) : pc (a ++ b) j = pc a j + pc b j := by simp [pc, List.countP_append]
theorem pc_one (w : Int) (j : Nat) : pc [w] j = if w = 1000 + (j : Int) then 1 else 0 := by simp [pc, List.countP_cons]
theorem pc_cons (w : Int) (ws : List Int) (j : Nat) : pc (w :: ws) j = (if w = 1000 + (j : Int) then 1 else 0) + pc ws j := by
  rw [show w :: ws = [w] ++ ws from rfl, pc_append, pc_one]
theorem pc_pos {ws : List Int} {j : Nat} : 0 < pc ws j ↔ (1000 + (j : Int)) ∈ ws := by
  unfold pc
  rw [List.countP_pos_iff]
  constructor
  · rintro ⟨w, h1, h2⟩
    rw [decide_eq_true_eq] at h2; subst h2; exact h1
  · intro h; exact ⟨_, h, by simp⟩

/-- How often the marked cells point to a place. -/
def inn (h : List Cell) (p : Nat → Bool) (j : Nat) : Nat → Nat
  | 0 => 0
  | n + 1 => inn h p j n + if p n then pc (fl h n) j else 0
abbrev inA (h : List Cell) (j : Nat) : Nat := inn h (fun _ => true) j h.length
abbrev inF (h : List Cell) (p : Nat → Bool) (j : Nat) : Nat := inn h p j h.length

theorem inn_congr {h g : List Cell} {p q : Nat → Bool} {j n : Nat} (e : ∀ i, i < n → (if p i then pc (fl h i) j else 0) = (if q i then pc (fl g i) j else 0)) : inn h p j n = inn g q j n := by
  induction n with
  | zero => rfl
  | succ n ih => unfold inn; rw [ih fun i hi => e i (by omega), e n (by omega)]
theorem inn_set {h : List Cell} {p : Nat → Bool} {j n x : Nat} (hx : x < n) (hp : p x = false) : inn h (fun k => if k = x then true else p k) j n = inn h p j n + pc (fl h x) j := by
  induction n with
  | zero => omega
  | succ n ih =>
    unfold inn
    by_cases e : x = n
    · subst e
      rw [inn_congr (g := h) (q := p) (n := x) (fun i hi => by
        have : ¬ i = x := by omega
        simp [this])]
      simp [hp]
    · have e' : ¬ n = x := fun h => e h.symm
      rw [ih (by omega)]
      simp only [e', if_false]
      omega
theorem inn_le {h : List Cell} {p q : Nat → Bool} {j n : Nat} (e : ∀ i, i < n → p i = true → q i = true) : inn h p j n ≤ inn h q j n := by
  induction n with
  | zero => exact Nat.le_refl _
  | succ n ih =>
    unfold inn
    have h1 := ih fun i hi => e i (by omega)
    have h2 := e n (by omega)
    cases hp : p n with
    | false => simp; omega
    | true => simp [h2 hp]; omega
theorem inn_add {h : List Cell} {p q : Nat → Bool} {j n : Nat} (e : ∀ i, i < n → p i = true → q i = false) : inn h (fun i => p i || q i) j n = inn h p j n + inn h q j n := by
  induction n with
  | zero => rfl
  | succ n ih =>
    unfold inn
    rw [ih fun i hi => e i (by omega)]
    have h2 := e n (by omega)
    cases hp : p n with
    | false => cases hq : q n <;> simp <;> omega
    | true => simp [h2 hp]; omega
theorem inn_zero {h : List Cell} {p : Nat → Bool} {j n : Nat} (e : ∀ i, i < n → p i = true → pc (fl h i) j = 0) : inn h p j n = 0 := by
  induction n with
  | zero => rfl
  | succ n ih =>
    unfold inn
    rw [ih fun i hi => e i (by omega)]
    cases hp : p n with
    | false => simp
    | true => simp [e n (by omega) hp]
theorem inn_ge {h : List Cell} {p : Nat → Bool} {j n i : Nat} (hi : i < n) (hp : p i = true) : pc (fl h i) j ≤ inn h p j n := by
  induction n with
  | zero => omega
  | succ n ih =>
    unfold inn
    rcases Nat.lt_succ_iff_lt_or_eq.1 hi with h1 | rfl
    · have := ih h1; omega
    · simp [hp]
theorem inn_more {h : List Cell} {p : Nat → Bool} {j n m : Nat} (hn : h.length ≤ n) : inn h p j (n + m) = inn h p j n := by
  induction m with
  | zero => rfl
  | succ m ih =>
    show inn h p j (n + m) + (if p (n + m) then pc (fl h (n + m)) j else 0) = _
    rw [ih, fl_cat, cat_ge (by omega)]
    simp [pc_nil]

theorem liveW_ct {h : List Cell} {j : Nat} : liveW h (1000 + (j : Int)) = decide (0 < ct h j) := by
  unfold liveW ct cat
  rw [show (1000 + (j : Int) - 1000).toNat = j by omega]
  have e : decide ((1000 : Int) ≤ 1000 + (j : Int)) = true := by simp; omega
  rw [e, Bool.true_and]
  cases h[j]? <;> rfl
theorem ptr_eq {w : Int} (hw : 1000 ≤ w) : w = 1000 + (((w - 1000).toNat : Nat) : Int) := by omega
theorem hits_pc {h : List Cell} {j : Nat} {w : Int} : hits h j w = (decide (0 < ct h j) && decide (w = 1000 + (j : Int))) := by
  unfold hits
  by_cases hw : 1000 ≤ w
  · obtain ⟨i, hi⟩ : ∃ i : Nat, w = 1000 + (i : Int) := ⟨_, ptr_eq hw⟩
    subst hi
    rw [liveW_ct, show (1000 + (i : Int) - 1000).toNat = i by omega]
    by_cases e : i = j
    · subst e; simp
    · have e1 : ¬ (1000 + (i : Int) = 1000 + (j : Int)) := by omega
      simp [e, e1]
  · rw [liveW_low hw]
    have e1 : ¬ (w = 1000 + (j : Int)) := by omega
    simp [e1]
theorem cnt_pc (h : List Cell) (ws : List Int) (j : Nat) : cnt h ws j = if 0 < ct h j then pc ws j else 0 := by
  unfold cnt pc
  by_cases hc : 0 < ct h j
  · rw [if_pos hc]
    refine List.countP_congr fun w _ => ?_
    rw [hits_pc]; simp [hc]
  · rw [if_neg hc, List.countP_eq_zero]
    intro w _
    rw [hits_pc]; simp [hc]
theorem tot_inA (h : List Cell) (j : Nat) : tot h h j = if 0 < ct h j then inA h j else 0 := by
  rw [← un_none]
  unfold un
  have key : ∀ n, unTo h (fun _ => false) j n = if 0 < ct h j then inn h (fun _ => true) j n else 0 := by
    intro n
    induction n with
    | zero => simp [unTo, inn]
    | succ n ih =>
      unfold unTo inn
      rw [ih, cnt_pc]
      by_cases hc : 0 < ct h j <;> simp [hc]
  exact key _

/-! ### Copies -/

theorem copyInts_eq {l : List Int} (hl : l.length ≤ 1048576) : spec_copyInts l = some l := by
  unfold spec_copyInts
  rw [app_ok [] l 8 (by simp; omega) (by simp; omega)]; rfl
theorem copyHeap_L1 {h : List Cell} (H : Hp h) {N i : Nat} (hi : i ≤ h.length) (hN : h.length - i < N) : spec_copyHeap_L1 h N i (h.take i) = some h := by
  have hl := H.len
  refine loop_ind h.length (fun N i => spec_copyHeap_L1 h N i (h.take i) = some h) ?_ ?_ hi hN
  · intro n
    rw [spec_copyHeap_L1, if_neg (by simp [len_def]), List.take_length]
  · intro n i hi ih
    obtain ⟨c, hc, hcm⟩ := at_lt hi
    rw [spec_copyHeap_L1, if_pos (by simp [len_def]; omega), get_lt hc]
    simp only [Option.bind_some]
    rw [copyInts_eq (H.flen hcm)]
    simp only [Option.bind_some]
    rw [app_ok _ _ 40 (by simp; omega) (by simp; omega), w_id (by omega) (by omega), show ((i : Int) + 1) = ((i + 1 : Nat) : Int) by omega]
    simp only [Option.bind_some]
    rw [← take_snoc hc]; exact ih
theorem copyHeap_eq {h : List Cell} (H : Hp h) {N : Nat} (hN : 2000000 ≤ N) : spec_copyHeap N h = some h := by
  have hl := H.len
  unfold spec_copyHeap
  have := copyHeap_L1 H (Nat.zero_le _) (by omega : h.length - 0 < N)
  rw [List.take_zero, show ((0 : Nat) : Int) = 0 from rfl] at this
  rw [this]; rfl
theorem cloneHeap_L1 {h : List Cell} (H : Hp h) {N i : Nat} (hi : i ≤ h.length) (hN : h.length - i < N) : impl_cloneHeap_L1 h N i h = some h := by
  have hl := H.len
  refine loop_ind h.length (fun N i => impl_cloneHeap_L1 h N i h = some h) ?_ ?_ hi hN
  · intro n
    rw [impl_cloneHeap_L1, if_neg (by simp [len_def])]
  · intro n i hi ih
    obtain ⟨c, hc, hcm⟩ := at_lt hi
    rw [impl_cloneHeap_L1, if_pos (by simp [len_def]; omega), get_lt hc]
    simp only [Option.bind_some]
    rw [clone_eq _ (H.flen hcm)]
    simp only [Option.bind_some]
    rw [w_id (by omega) (by omega), show ((i : Int) + 1) = ((i + 1 : Nat) : Int) by omega, put_nat]
    have : h.set i ⟨c.count, c.tag, c.fields⟩ = h := by
      apply List.ext_getElem?
      intro k
      rw [List.getElem?_set]
      by_cases e : i = k
      · subst e; rw [if_pos rfl, if_pos hi, hc]
      · rw [if_neg e]
    rw [this]; exact ih
theorem cloneHeap_eq {h : List Cell} (H : Hp h) {N : Nat} (hN : 2000000 ≤ N) : impl_cloneHeap N h = some h := by
  have hl := H.len
  unfold impl_cloneHeap slices_Clone_impl_Cell_impl_Cell
  rw [app_ok [] h 40 (by simp; omega) (by simp; omega)]
  simp only [Option.bind_some, List.nil_append]
  have := cloneHeap_L1 H (Nat.zero_le _) (by omega : h.length - 0 < N)
  rw [show ((0 : Nat) : Int) = 0 from rfl] at this
  rw [this]; rfl

/-! ### Without the free cells at the end -/

def tl (h : List Cell) : Nat → Nat
  | 0 => 0
  | n + 1 => if ct h n = 0 then tl h n else n + 1
def trm (h : List Cell) : List Cell := h.take (tl h h.length)
theorem tl_le (h : List Cell) (n : Nat) : tl h n ≤ n := by
  induction n with
  | zero => exact Nat.le_refl _
  | succ n ih => unfold tl; split <;> omega
theorem tl_free (h : List Cell) (n : Nat) : ∀ j, tl h n ≤ j → j < n → ct h j = 0 := by
  induction n with
  | zero => intro j _ h2; omega
  | succ n ih =>
    unfold tl
    intro j h1 h2
    split at h1
    · rename_i h0
      rcases Nat.lt_succ_iff_lt_or_eq.1 h2 with h3 | rfl
      · exact ih j h1 h3
      · exact h0
    · omega
theorem tl_last (h : List Cell) (n : Nat) : tl h n = 0 ∨ ct h (tl h n - 1) ≠ 0 := by
  induction n with
  | zero => exact .inl rfl
  | succ n ih =>
    unfold tl
    split
    · exact ih
    · rename_i h0
      exact .inr (by simpa using h0)
theorem trm_len (h : List Cell) : (trm h).length = tl h h.length := by
  unfold trm; rw [List.length_take]; have := tl_le h h.length; omega
theorem cat_trm_lt {h : List Cell} {j : Nat} (hj : j < tl h h.length) : cat (trm h) j = cat h j := by
  unfold cat trm
  rw [List.getElem?_take, if_pos hj]
/-- A cell that is free has nothing. -/
def Zr (h : List Cell) : Prop := ∀ j, ct h j = 0 → cat h j = ⟨0, 0, []⟩
theorem cat_trm {h : List Cell} (hz : Zr h) (j : Nat) : cat (trm h) j = cat h j := by
  by_cases hj : j < tl h h.length
  · exact cat_trm_lt hj
  · rw [cat_ge (by rw [trm_len]; omega)]
    by_cases h2 : j < h.length
    · rw [hz j (tl_free h h.length j (by omega) h2)]
    · rw [cat_ge (by omega)]
theorem lastFree_ct (h : List Cell) : lastFree h = false ↔ h.length = 0 ∨ ct h (h.length - 1) ≠ 0 := by
  unfold lastFree ct cat
  by_cases h0 : h.length = 0
  · have : h = [] := List.eq_nil_of_length_eq_zero h0
    subst this; simp
  · obtain ⟨c, hc, _⟩ := at_lt (l := h) (i := h.length - 1) (by omega)
    rw [hc]; simp [h0]
theorem trm_last (h : List Cell) : lastFree (trm h) = false := by
  rw [lastFree_ct, trm_len]
  rcases tl_last h h.length with h1 | h1
  · exact .inl h1
  · by_cases h0 : tl h h.length = 0
    · exact .inl h0
    · refine .inr ?_
      unfold ct at h1 ⊢
      rwa [cat_trm_lt (by omega)]
/-- Heaps that do not end in a free cell and have the same cells are the same. -/
theorem eq_of_cat {h g : List Cell} (h1 : lastFree h = false) (h2 : lastFree g = false) (e : ∀ j, cat h j = cat g j) : h = g := by
  have hlen : h.length = g.length := by
    rw [lastFree_ct] at h1 h2
    have e' : ∀ j, ct h j = ct g j := fun j => by unfold ct; rw [e]
    rcases Nat.lt_trichotomy h.length g.length with h3 | h3 | h3
    · rcases h2 with h2 | h2
      · omega
      · exact absurd (by rw [← e']; unfold ct; rw [cat_ge (by omega)]) h2
    · exact h3
    · rcases h1 with h1 | h1
      · omega
      · exact absurd (by rw [e']; unfold ct; rw [cat_ge (by omega)]) h1
  rw [← rowOf_cat h, ← rowOf_cat g, hlen]
  exact rowOf_congr fun j _ => e j
theorem trm_id {h : List Cell} (hl : lastFree h = false) : trm h = h := by
  unfold trm
  rw [lastFree_ct] at hl
  rcases hl with hl | hl
  · have : h = [] := List.eq_nil_of_length_eq_zero hl
    subst this; rfl
  · have hn0 : h.length ≠ 0 := fun h0 => hl (by unfold ct; rw [cat_ge (by omega)])
    obtain ⟨n, hn⟩ : ∃ n, h.length = n + 1 := ⟨h.length - 1, by omega⟩
    have : tl h h.length = h.length := by
      rw [hn] at hl ⊢
      unfold tl
      rw [if_neg (by simpa using hl)]
    rw [this, List.take_length]

theorem spec_trim_L1_eq {h : List Cell} (hl : h.length ≤ 1048576) : ∀ (n N : Nat), n ≤ h.length → n < N → spec_trim_L1 h N (n : Int) = some ((tl h n : Nat) : Int) := by
  intro n
  induction n with
  | zero =>
    intro N _ hN
    obtain ⟨N', rfl⟩ : ∃ N', N = N' + 1 := ⟨N - 1, by omega⟩
    simp [spec_trim_L1, tl]
  | succ n ih =>
    intro N hn hN
    obtain ⟨N', rfl⟩ : ∃ N', N = N' + 1 := ⟨N - 1, by omega⟩
    rw [spec_trim_L1, if_pos (by simp), w_id (by omega) (by omega), show (((n + 1 : Nat) : Int) - 1) = ((n : Nat) : Int) by omega, get_lt (cat_lt (by omega))]
    simp only [Option.bind_some]
    unfold tl
    by_cases h0 : (cat h n).count = 0
    · rw [if_pos (by simpa using h0), if_pos (show ct h n = 0 from h0)]; exact ih N' (by omega) (by omega)
    · rw [if_neg (by simpa using h0), if_neg (show ¬ ct h n = 0 from h0)]
theorem spec_trim_eq {h : List Cell} (hl : h.length ≤ 1048576) {N : Nat} (hN : 2000000 ≤ N) : spec_trim N h = some (trm h) := by
  unfold spec_trim
  rw [len_def, spec_trim_L1_eq hl _ _ (Nat.le_refl _) (by omega)]
  simp only [Option.bind_some]
  rw [hi_ok (tl_le _ _)]; rfl
theorem impl_trim_L1_eq {h : List Cell} (hl : h.length ≤ 1048576) : ∀ (n N : Nat), n ≤ h.length → n < N → impl_heap_trim_L1 h N (n : Int) = some ((tl h n : Nat) : Int) := by
  intro n
  induction n with
  | zero =>
    intro N _ hN
    obtain ⟨N', rfl⟩ : ∃ N', N = N' + 1 := ⟨N - 1, by omega⟩
    simp [impl_heap_trim_L1, tl]
  | succ n ih =>
    intro N hn hN
    obtain ⟨N', rfl⟩ : ∃ N', N = N' + 1 := ⟨N - 1, by omega⟩
    rw [impl_heap_trim_L1, if_pos (by simp), w_id (by omega) (by omega), show (((n + 1 : Nat) : Int) - 1) = ((n : Nat) : Int) by omega, get_lt (cat_lt (by omega))]
    simp only [Option.bind_some]
    unfold tl
    by_cases h0 : (cat h n).count = 0
    · rw [if_pos (by simpa using h0), if_pos (show ct h n = 0 from h0)]; exact ih N' (by omega) (by omega)
    · rw [if_neg (by simpa using h0), if_neg (show ¬ ct h n = 0 from h0)]
theorem impl_trim_eq {h : List Cell} (hl : h.length ≤ 1048576) {N : Nat} (hN : 2000000 ≤ N) : impl_heap_trim N h = some (trm h) := by
  unfold impl_heap_trim
  rw [len_def, impl_trim_L1_eq hl _ _ (Nat.le_refl _) (by omega)]
  simp only [Option.bind_some]
  rw [hi_ok (tl_le _ _)]; rfl
end RC
