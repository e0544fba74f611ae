import Derived.Test.YtcpedchmkhlpnaaHMB
namespace RC
open Go

/-! ### Lists by their places -/

def rowOf {α : Type} (n : Nat) (f : Nat → α) : List α := (List.range n).map f
theorem rowOf_len {α : Type} {n : Nat} {f : Nat → α} : (rowOf n f).length = n := by simp [rowOf]
theorem rowOf_get {α : Type} {n : Nat} {f : Nat → α} {j : Nat} (h : j < n) : (rowOf n f)[j]? = some (f j) := by simp [rowOf, h]
theorem rowOf_congr {α : Type} {n : Nat} {f g : Nat → α} (h : ∀ j, j < n → f j = g j) : rowOf n f = rowOf n g := List.map_congr_left fun j hj => h j (List.mem_range.1 hj)
theorem rowOf_set {α : Type} {n : Nat} {f : Nat → α} {j : Nat} {v : α} : (rowOf n f).set j v = rowOf n (fun k => if k = j then v else f k) := by
  apply List.ext_getElem?
  intro k
  rw [List.getElem?_set]
  by_cases hk : k < n
  · rw [rowOf_get hk, rowOf_get hk, rowOf_len]
    by_cases e : j = k
    · subst e; simp [hk]
    · have e' : ¬ k = j := fun h => e h.symm
      simp [e, e']
  · rw [List.getElem?_eq_none (by rw [rowOf_len]; omega), List.getElem?_eq_none (by rw [rowOf_len]; omega), rowOf_len]
    by_cases e : j = k
    · subst e; simp [hk]
    · simp [e]
theorem rowOf_const {α : Type} (n : Nat) (x : α) : List.replicate n x = rowOf n (fun _ => x) := by
  apply List.ext_getElem?
  intro k
  by_cases hk : k < n
  · rw [rowOf_get hk]; simp [hk]
  · rw [List.getElem?_eq_none (by simp; omega), List.getElem?_eq_none (by rw [rowOf_len]; omega)]

/-! ### References -/

def hits (h : List Cell) (j : Nat) (w : Int) : Bool := liveW h w && decide ((w - 1000).toNat = j)
def cnt (h : List Cell) (ws : List Int) (j : Nat) : Nat := ws.countP (hits h j)
def tot (h l : List Cell) (j : Nat) : Nat := (l.map fun c => cnt h c.fields j).sum

theorem cnt_nil (h : List Cell) (j : Nat) : cnt h [] j = 0 := rfl
theorem cnt_cons (h : List Cell) (x : Int) (ws : List Int) (j : Nat) : cnt h (x :: ws) j = (if hits h j x then 1 else 0) + cnt h ws j := by
  unfold cnt; rw [List.countP_cons]; omega
theorem cnt_drop {h : List Cell} {ws : List Int} {i : Nat} {x : Int} (hx : ws[i]? = some x) (j : Nat) : cnt h (ws.drop i) j = (if hits h j x then 1 else 0) + cnt h (ws.drop (i + 1)) j := by rw [drop_cons hx, cnt_cons]
theorem cnt_le (h : List Cell) (ws : List Int) (j : Nat) : cnt h ws j ≤ ws.length := List.countP_le_length
theorem tot_drop {h l : List Cell} {i : Nat} {c : Cell} (hc : l[i]? = some c) (j : Nat) : tot h (l.drop i) j = cnt h c.fields j + tot h (l.drop (i + 1)) j := by rw [drop_cons hc]; simp [tot]
theorem tot_le (h l : List Cell) (j : Nat) : tot h l j ≤ fsum l := by
  induction l with
  | nil => simp [tot]
  | cons c l ih =>
    have := cnt_le h c.fields j
    simp only [tot, fsum, List.map_cons, List.sum_cons] at ih ⊢
    omega
theorem hits_live {h : List Cell} {j : Nat} {x : Int} (hh : hits h j x = true) : liveW h x = true ∧ (x - 1000).toNat = j := by
  unfold hits at hh; simpa using hh
theorem hits_not {h : List Cell} {j : Nat} {x : Int} (hl : liveW h x = false) : hits h j x = false := by simp [hits, hl]
theorem hits_at {h : List Cell} {j : Nat} {x : Int} (hl : liveW h x = true) : hits h j x = decide ((x - 1000).toNat = j) := by simp [hits, hl]

theorem refs_L2_eq {h : List Cell} {c : Cell} {i : Nat} (hc : h[i]? = some c) (hl : h.length ≤ 1048576) (hf : c.fields.length ≤ 1048576) (hF : ∀ x ∈ c.fields, I64 x) {N k : Nat} (hk : k ≤ c.fields.length) (hN : c.fields.length - k < N) :
    ∀ f : Nat → Int, (∀ j, 0 ≤ f j ∧ f j ≤ 1048576 + k) → spec_refsOf_L2 i h N k (rowOf h.length f) = some (rowOf h.length fun j => f j + cnt h (c.fields.drop k) j) := by
  refine loop_ind c.fields.length (fun N k => ∀ f : Nat → Int, (∀ j, 0 ≤ f j ∧ f j ≤ 1048576 + k) → spec_refsOf_L2 i h N k (rowOf h.length f) = some (rowOf h.length fun j => f j + cnt h (c.fields.drop k) j)) ?_ ?_ hk hN
  · intro n f _
    rw [spec_refsOf_L2, get_lt hc]
    simp only [Option.bind_some]
    rw [if_neg (by simp [len_def])]
    simp [cnt_nil]
  · intro n k hk ih f hb
    obtain ⟨x, hx, hxm⟩ := at_lt hk
    rw [spec_refsOf_L2, get_lt hc]
    simp only [Option.bind_some]
    rw [if_pos (by simp [len_def]; omega), get_lt hx]
    simp only [Option.bind_some]
    rw [isLive_eq hl (hF x hxm)]
    simp only [Option.bind_some]
    rw [w_id (n := (k : Int) + 1) (by omega) (by omega), show ((k : Int) + 1) = ((k + 1 : Nat) : Int) from rfl]
    cases hlv : liveW h x
    · simp only [Bool.false_eq_true, if_false, Option.bind_some]
      rw [ih f (fun j => ⟨(hb j).1, by have := (hb j).2; omega⟩)]
      congr 1
      refine rowOf_congr fun j _ => ?_
      rw [cnt_drop hx, hits_not hlv]; simp
    · obtain ⟨q, c', h1, h2, h3, _⟩ := liveW_spec hlv
      have e1 : x - 1000 = (q : Int) := by omega
      simp only [if_true]
      rw [w_id (n := x - 1000) (by omega) (by omega), e1, get_lt (rowOf_get h3)]
      simp only [Option.bind_some]
      have hbq := hb q
      rw [w_id (by omega) (by omega), put_nat, rowOf_set]
      rw [ih _ (fun j => by
        by_cases e : j = q
        · simp only [e, if_true]; omega
        · simp only [e, if_false]; have := hb j; omega)]
      congr 1
      refine rowOf_congr fun j _ => ?_
      rw [cnt_drop hx, hits_at hlv, h2]
      by_cases e : j = q
      · subst e; simp; omega
      · have e' : ¬ q = j := fun h => e h.symm
        simp [e, e']

theorem refs_L1_eq {h : List Cell} (H : Hp h) {M : Nat} (hM : 2000000 ≤ M) {N i : Nat} (hi : i ≤ h.length) (hN : h.length - i < N) :
    ∀ f : Nat → Int, (∀ j, 0 ≤ f j ∧ f j + tot h (h.drop i) j ≤ 1048576) → spec_refsOf_L1 M h N i (rowOf h.length f) = some (rowOf h.length fun j => f j + tot h (h.drop i) j) := by
  have hl := H.len
  refine loop_ind h.length (fun N i => ∀ f : Nat → Int, (∀ j, 0 ≤ f j ∧ f j + tot h (h.drop i) j ≤ 1048576) → spec_refsOf_L1 M h N i (rowOf h.length f) = some (rowOf h.length fun j => f j + tot h (h.drop i) j)) ?_ ?_ hi hN
  · intro n f _
    rw [spec_refsOf_L1, if_neg (by simp [len_def])]
    simp [tot]
  · intro n i hi ih f hb
    obtain ⟨c, hc, hcm⟩ := at_lt hi
    have hfl := H.flen hcm
    have := refs_L2_eq hc hl hfl (H.cells c hcm).fields (Nat.zero_le _) (by omega : c.fields.length - 0 < M) f (fun j => ⟨(hb j).1, by have := (hb j).2; omega⟩)
    rw [show ((0 : Nat) : Int) = 0 from rfl, List.drop_zero] at this
    rw [spec_refsOf_L1, if_pos (by simp [len_def]; omega), this]
    simp only [Option.bind_some]
    rw [w_id (by omega) (by omega), show ((i : Int) + 1) = ((i + 1 : Nat) : Int) from rfl, ih]
    · congr 1
      refine rowOf_congr fun j _ => ?_
      rw [tot_drop hc]; omega
    · intro j
      have := hb j
      rw [tot_drop hc] at this
      omega
def refs (h : List Cell) : List Int := rowOf h.length fun j => (tot h h j : Int)
theorem refsOf_eq {h : List Cell} (H : Hp h) {N : Nat} (hN : 2000000 ≤ N) : spec_refsOf N h = some (refs h) := by
  have hl := H.len
  unfold spec_refsOf
  rw [len_def, mk_ok _ h.length 8 (by omega) (by omega), rowOf_const]
  simp only [Option.bind_some]
  have := refs_L1_eq H hN (Nat.zero_le _) (by omega : h.length - 0 < N) (fun _ => 0) (fun j => ⟨by omega, by
    have h1 := tot_le h (h.drop 0) j
    have h2 := fsum_drop_le h 0
    have h3 := H.size
    unfold hsize at h3; omega⟩)
  rw [show ((0 : Nat) : Int) = 0 from rfl, List.drop_zero] at this
  rw [this]
  simp [refs]

/-! #### The same in the program -/

theorem chk_L5_eq {h : List Cell} {c : Cell} (hl : h.length ≤ 1048576) (hf : c.fields.length ≤ 1048576) (hF : ∀ x ∈ c.fields, I64 x) {N k : Nat} (hk : k ≤ c.fields.length) (hN : c.fields.length - k < N) :
    ∀ f : Nat → Int, (∀ j, 0 ≤ f j ∧ f j ≤ 1048576 + k) → impl_checkedHeap_L5 c h N k (rowOf h.length f) = some (rowOf h.length fun j => f j + cnt h (c.fields.drop k) j) := by
  refine loop_ind c.fields.length (fun N k => ∀ f : Nat → Int, (∀ j, 0 ≤ f j ∧ f j ≤ 1048576 + k) → impl_checkedHeap_L5 c h N k (rowOf h.length f) = some (rowOf h.length fun j => f j + cnt h (c.fields.drop k) j)) ?_ ?_ hk hN
  · intro n f _
    rw [impl_checkedHeap_L5, if_neg (by simp [len_def])]
    simp [cnt_nil]
  · intro n k hk ih f hb
    obtain ⟨x, hx, hxm⟩ := at_lt hk
    rw [impl_checkedHeap_L5, if_pos (by simp [len_def]; omega), get_lt hx]
    simp only [Option.bind_some]
    rw [liveAt_eq hl (hF x hxm)]
    simp only [Option.bind_some]
    rw [w_id (n := (k : Int) + 1) (by omega) (by omega), show ((k : Int) + 1) = ((k + 1 : Nat) : Int) from rfl]
    cases hlv : liveW h x
    · simp only [Bool.false_eq_true, if_false, Option.bind_some]
      rw [ih f (fun j => ⟨(hb j).1, by have := (hb j).2; omega⟩)]
      congr 1
      refine rowOf_congr fun j _ => ?_
      rw [cnt_drop hx, hits_not hlv]; simp
    · obtain ⟨q, c', h1, h2, h3, _⟩ := liveW_spec hlv
      have e1 : x - 1000 = (q : Int) := by omega
      simp only [if_true]
      rw [w_id (n := x - 1000) (by omega) (by omega), e1, get_lt (rowOf_get h3)]
      simp only [Option.bind_some]
      have hbq := hb q
      rw [w_id (by omega) (by omega), put_nat, rowOf_set]
      rw [ih _ (fun j => by
        by_cases e : j = q
        · simp only [e, if_true]; omega
        · simp only [e, if_false]; have := hb j; omega)]
      congr 1
      refine rowOf_congr fun j _ => ?_
      rw [cnt_drop hx, hits_at hlv, h2]
      by_cases e : j = q
      · subst e; simp; omega
      · have e' : ¬ q = j := fun h => e h.symm
        simp [e, e']

theorem chk_L1_eq {h : List Cell} (H : Hp h) {M : Nat} (hM : 2000000 ≤ M) {N i : Nat} (hi : i ≤ h.length) (hN : h.length - i < N) :
    ∀ f : Nat → Int, (∀ j, 0 ≤ f j ∧ f j + tot h (h.drop i) j ≤ 1048576) → impl_checkedHeap_L1 M h N i (rowOf h.length f) = some (if (h.drop i).all (cellI h) then Sum.inr (rowOf h.length fun j => f j + tot h (h.drop i) j) else Sum.inl ([], false)) := by
  have hl := H.len
  refine loop_ind h.length (fun N i => ∀ f : Nat → Int, (∀ j, 0 ≤ f j ∧ f j + tot h (h.drop i) j ≤ 1048576) → impl_checkedHeap_L1 M h N i (rowOf h.length f) = some (if (h.drop i).all (cellI h) then Sum.inr (rowOf h.length fun j => f j + tot h (h.drop i) j) else Sum.inl ([], false))) ?_ ?_ hi hN
  · intro n f _
    rw [impl_checkedHeap_L1, if_neg (by simp [len_def])]
    simp [tot]
  · intro n i hi ih f hb
    obtain ⟨c, hc, hcm⟩ := at_lt hi
    have hfl := H.flen hcm
    rw [impl_checkedHeap_L1, if_pos (by simp [len_def]; omega), get_lt hc]
    simp only [Option.bind_some]
    rw [cellValid_eq hl hfl (H.cells c hcm).fields hM, all_drop hc]
    simp only [Option.bind_some]
    cases hv : cellI h c
    · simp
    · simp only [Bool.not_true, Bool.false_eq_true, if_false, Bool.true_and]
      have := chk_L5_eq hl hfl (H.cells c hcm).fields (Nat.zero_le _) (by omega : c.fields.length - 0 < M) f (fun j => ⟨(hb j).1, by have := (hb j).2; omega⟩)
      rw [show ((0 : Nat) : Int) = 0 from rfl, List.drop_zero] at this
      rw [this]
      simp only [Option.bind_some]
      rw [w_id (by omega) (by omega), show ((i : Int) + 1) = ((i + 1 : Nat) : Int) from rfl, ih]
      · have e : (rowOf h.length fun j => f j + (cnt h c.fields j : Int) + (tot h (h.drop (i + 1)) j : Int)) = rowOf h.length fun j => f j + (tot h (h.drop i) j : Int) := rowOf_congr fun j _ => by rw [tot_drop hc]; omega
        rw [e]
      · intro j
        have := hb j
        rw [tot_drop hc] at this
        omega

/-! ### All places from one on -/

def allFrom (p : Nat → Bool) : Nat → Nat → Bool
  | 0, _ => true
  | k + 1, i => p i && allFrom p k (i + 1)
def allF (p : Nat → Bool) (n i : Nat) : Bool := allFrom p (n - i) i
theorem allF_end (p : Nat → Bool) (n : Nat) : allF p n n = true := by simp [allF, allFrom]
theorem allF_step {p : Nat → Bool} {n i : Nat} (h : i < n) : allF p n i = (p i && allF p n (i + 1)) := by
  unfold allF
  obtain ⟨k, hk⟩ : ∃ k, n - i = k + 1 := ⟨n - i - 1, by omega⟩
  rw [hk, show n - (i + 1) = k by omega]; rfl
theorem allF_iff {p : Nat → Bool} {n i : Nat} (h : i ≤ n) : allF p n i = true ↔ ∀ j, i ≤ j → j < n → p j = true := by
  obtain ⟨k, hk⟩ : ∃ k, n - i = k := ⟨_, rfl⟩
  induction k generalizing i with
  | zero =>
    have : i = n := by omega
    subst this
    rw [allF_end]
    simp; intro j h1 h2; omega
  | succ k ih =>
    rw [allF_step (by omega), Bool.and_eq_true, ih (by omega) (by omega)]
    constructor
    · rintro ⟨h1, h2⟩ j h3 h4
      rcases Nat.eq_or_lt_of_le h3 with rfl | h5
      · exact h1
      · exact h2 j h5 h4
    · intro h1
      exact ⟨h1 i (Nat.le_refl _) (by omega), fun j h2 h3 => h1 j (by omega) h3⟩

def okS (h : List Cell) (j : Nat) : Bool := match h[j]? with | some c => !(decide (0 < c.count) && decide (c.count < tot h h j)) | none => true
def okI (h : List Cell) (j : Nat) : Bool := match h[j]? with | some c => !(decide (0 < c.count) && (decide (c.count < tot h h j) || decide (999999 < c.count))) | none => true

theorem valid_L2_eq {h : List Cell} (hl : h.length ≤ 1048576) {N i : Nat} (hi : i ≤ h.length) (hN : h.length - i < N) : spec_validHeap_L2 h (refs h) N i = some (if allF (okS h) h.length i then Sum.inr () else Sum.inl false) := by
  refine loop_ind h.length (fun N i => spec_validHeap_L2 h (refs h) N i = some (if allF (okS h) h.length i then Sum.inr () else Sum.inl false)) ?_ ?_ hi hN
  · intro n
    rw [spec_validHeap_L2, if_neg (by simp [len_def]), allF_end]; rfl
  · intro n i hi ih
    obtain ⟨c, hc, _⟩ := at_lt hi
    rw [spec_validHeap_L2, if_pos (by simp [len_def]; omega), get_lt hc]
    simp only [Option.bind_some]
    rw [get_lt (l := refs h) (rowOf_get hi), w_id (by omega) (by omega), show ((i : Int) + 1) = ((i + 1 : Nat) : Int) from rfl, ih, allF_step hi]
    unfold okS
    rw [hc]
    by_cases h1 : 0 < c.count <;> by_cases h2 : c.count < tot h h i <;> simp [h1, h2]

def nats (l : List Nat) : List Int := List.map (fun n : Nat => (n : Int)) l
def zeros (h : List Cell) (i : Nat) : List Nat := (List.range' i (h.length - i)).filter fun j => decide (tot h h j = 0)
theorem zeros_end (h : List Cell) : zeros h h.length = [] := by simp [zeros]
theorem zeros_step {h : List Cell} {i : Nat} (hi : i < h.length) : zeros h i = (if tot h h i = 0 then [i] else []) ++ zeros h (i + 1) := by
  unfold zeros
  obtain ⟨k, hk⟩ : ∃ k, h.length - i = k + 1 := ⟨h.length - i - 1, by omega⟩
  rw [hk, show h.length - (i + 1) = k by omega, List.range'_succ, List.filter_cons]
  by_cases h1 : tot h h i = 0 <;> simp [h1]

theorem chk_L2_eq {h : List Cell} (hl : h.length ≤ 1048576) {N i : Nat} (hi : i ≤ h.length) (hN : h.length - i < N) : ∀ ws : List Nat, ws.length ≤ i →
    impl_checkedHeap_L2 (refs h) h N i (nats ws) = some (if allF (okI h) h.length i then Sum.inr (nats (ws ++ zeros h i)) else Sum.inl ([], false)) := by
  refine loop_ind h.length (fun N i => ∀ ws : List Nat, ws.length ≤ i → impl_checkedHeap_L2 (refs h) h N i (nats ws) = some (if allF (okI h) h.length i then Sum.inr (nats (ws ++ zeros h i)) else Sum.inl ([], false))) ?_ ?_ hi hN
  · intro n ws _
    rw [impl_checkedHeap_L2, if_neg (by simp [len_def]), allF_end, zeros_end]; simp
  · intro n i hi ih ws hw
    obtain ⟨c, hc, _⟩ := at_lt hi
    rw [impl_checkedHeap_L2, if_pos (by simp [len_def]; omega), get_lt hc]
    simp only [Option.bind_some]
    rw [get_lt (l := refs h) (rowOf_get hi), w_id (by omega) (by omega), show ((i : Int) + 1) = ((i + 1 : Nat) : Int) from rfl, allF_step hi, zeros_step hi]
    simp only [Option.bind_some]
    have hok : okI h i = !(decide (0 < c.count) && (decide (c.count < tot h h i) || decide (999999 < c.count))) := by unfold okI; rw [hc]
    rw [hok]
    by_cases hbad : 0 < c.count ∧ (c.count < tot h h i ∨ 999999 < c.count)
    · obtain ⟨h1, h2⟩ := hbad
      by_cases h3 : c.count < tot h h i
      · simp [h1, h3]
      · have h4 : 999999 < c.count := by rcases h2 with h | h; exact absurd h h3; exact h
        simp [h1, h3, h4]
    · have hgood : (decide (0 < c.count) && (decide (c.count < tot h h i) || decide (999999 < c.count))) = false := by
        by_cases h1 : 0 < c.count
        · have h2 : ¬ c.count < tot h h i := fun h => hbad ⟨h1, .inl h⟩
          have h3 : ¬ 999999 < c.count := fun h => hbad ⟨h1, .inr h⟩
          simp [h2, h3]
        · simp [h1]
      rw [hgood]
      have e1 : (if decide (0 < c.count) = true then (if decide (c.count < (tot h h i : Int)) = true then some true else some (decide (999999 < c.count))) else some false) = some false := by
        by_cases h1 : 0 < c.count
        · have h2 : ¬ c.count < tot h h i := fun h => hbad ⟨h1, .inl h⟩
          have h3 : ¬ 999999 < c.count := fun h => hbad ⟨h1, .inr h⟩
          simp [h1, h2, h3]
        · simp [h1]
      rw [e1]
      simp only [Option.bind_some, Bool.false_eq_true, if_false, Bool.not_false, Bool.true_and]
      by_cases hz : tot h h i = 0
      · have e2 : decide ((tot h h i : Int) = 0) = true := by simpa using hz
        rw [if_pos e2, app_ok _ _ _ (by simp [nats]; omega) (by simp [nats]; omega)]
        simp only [Option.bind_some, Sh.cont_inr]
        have := ih (ws ++ [i]) (by simp; omega)
        simp only [nats, List.map_append, List.map_cons, List.map_nil] at this ⊢
        rw [this, if_pos hz]
        simp
      · have e2 : decide ((tot h h i : Int) = 0) = false := by simp; omega
        rw [if_neg (by rw [e2]; simp)]
        simp only [Sh.cont_inr]
        rw [ih ws (by omega), if_neg hz]
        simp
end RC
