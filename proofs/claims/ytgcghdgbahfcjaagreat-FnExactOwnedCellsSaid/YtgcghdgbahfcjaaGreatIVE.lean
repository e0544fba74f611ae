import Derived.Test.YtgcghdgbahfcjaaGreatIVD

namespace RC
open Go
def lvA (s : RState) (f : RFrame) : Bool := allR f.regs.length (lvB s.heap f)
def hdA (s : RState) (f : RFrame) : Bool := allR f.held.length (hdB s.heap f)
theorem own_bound {s : RState} (Q : SOK s) {k : Nat} (hk : k < s.frames.length) {F : Nat → Int} {A : Nat} (h : JO (A + 999999 * hb s k + 999999 * (frA s k).own.length) 0 F) : JO (A + 999999 * hb s (k + 1)) 0 F := fun j => by
 have := h j
 have h2 := hb_succ hk
 have h3 : (frA s k).own.length ≤ fz (frA s k) := by unfold fz; omega
 omega
theorem JO_shift {A i : Nat} {F : Nat → Int} (h : JO A i F) : JO (A + 999999 * i) 0 F := fun j => by have := h j; omega
theorem own_L1 {im : RImage} {s : RState} (Q : SOK s) (hv : ∀ i, i < s.frames.length → fvB im (frA s i) = true ∧ lvA s (frA s i) = true) {N : Nat} (hN : 2000000 ≤ N) :
  spec_ownersOf N s = some (rowOf s.heap.length (ownT s s.frames.length Z)) ∧ JO (999999 * hb s s.frames.length) 0 (ownT s s.frames.length Z) := by
 have hl := Q.hp.len
 have hfl := Q.fl
 have stp : ∀ n i F, i < s.frames.length → JO (999999 * hb s i) 0 F → ((fun _ => true) i = true → JO (999999 * hb s (i + 1)) 0 (ownF (frA s i) F) ∧ spec_ownersOf_L1 N s (n + 1) (i : Int) (rowOf s.heap.length F) = spec_ownersOf_L1 N s n ((i + 1 : Nat) : Int) (rowOf s.heap.length (ownF (frA s i) F))) ∧ ((fun _ : Nat => true) i = false → ∃ e, False ∧ spec_ownersOf_L1 N s (n + 1) (i : Int) (rowOf s.heap.length F) = some e) := by
  intro n i F hi hJ
  refine ⟨fun _ => ?_, fun h => by cases h⟩
  obtain ⟨g1, g2, g3⟩ := frA_get hi
  obtain ⟨v1, v2⟩ := hv i hi
  obtain ⟨l1, l2, l3⟩ := lens_of v1
  have hb1 := Q.hb i
  obtain ⟨a, b⟩ := own_L2 hl (Q.fz g2) (Q.fin g2) l1 l3 v2 (A := 999999 * hb s i) (by omega) hN hJ
  refine ⟨?_, ?_⟩
  ·have := own_bound Q hi (A := 0) (F := ownF (frA s i) F) (by simpa using JO_shift b)
   simpa using this
  ·have e0 : (Sh.w ((i : Int) + 1)) = ((i + 1 : Nat) : Int) := by rw [w_id (by omega) (by omega)]; omega
   rw [spec_ownersOf_L1, if_pos (by simp [len_def]; omega), g1]
   simp only [Option.bind_some]
   rw [a, e0]; rfl
 have hZ : JO (999999 * hb s 0) 0 Z := fun j => ⟨Int.le_refl _, by unfold Z; omega⟩
 unfold spec_ownersOf
 rw [len_def, mk_ok _ s.heap.length 8 (by omega) (by omega), rowOf_const, show (fun _ : Nat => (0 : Int)) = Z from rfl]
 simp only [Option.bind_some]
 rcases cnt_loop (τ := Nat → Int) s.frames.length (spec_ownersOf_L1 N s) (fun r => r) (rowOf s.heap.length) (fun _ => true) (fun i => ownF (frA s i)) (fun i => JO (999999 * hb s i) 0) (fun _ => False)
  (fun n r => by rw [spec_ownersOf_L1, if_neg (by simp [len_def])]) stp (by omega : s.frames.length < N) hZ with ⟨a, b, c⟩ | ⟨_, e, he, _⟩
 ·rw [b]; exact ⟨rfl, c⟩
 ·cases he
def cellO (s : RState) (i : Nat) (c : Cell) : Bool := !decide (0 < c.count) || decide (c.count = (tot s.heap s.heap i : Int) + ownT s s.frames.length Z i)
theorem tot_small {s : RState} (Q : SOK s) (i : Nat) : (tot s.heap s.heap i : Int) ≤ 1048576 := by
 have h := tot_le s.heap s.heap i
 have := Q.hp.size
 unfold hsize at this
 omega
theorem exact_eq {im : RImage} {s : RState} (Q : SOK s) (hv : ∀ i, i < s.frames.length → fvB im (frA s i) = true ∧ lvA s (frA s i) = true) {N : Nat} (hN : 2000000 ≤ N) :
  spec_exactCounts N s = some (allAt (cellO s) 0 s.heap) := by
 have hl := Q.hp.len
 obtain ⟨a, b⟩ := own_L1 Q hv hN
 unfold spec_exactCounts
 rw [refsOf_eq Q.hp hN, a]
 simp only [Option.bind_some]
 rw [all_loop (l := s.heap) (spec_exactCounts_L1 s (refs s.heap) (rowOf s.heap.length (ownT s s.frames.length Z))) (cellO s) (fun n => by rw [spec_exactCounts_L1, if_neg (by simp [len_def])]) (fun n i c hc => ?_) (by omega), cont_all]
 ·cases allAt (cellO s) 0 s.heap <;> rfl
 ·have hi := (List.getElem?_eq_some_iff.1 hc).1
  have hr : Sh.get (refs s.heap) (i : Int) = some (tot s.heap s.heap i : Int) := get_lt (rowOf_get (by omega))
  have hb1 := Q.hb s.frames.length
  have hbi := b i
  have ht := tot_small Q i
  rw [spec_exactCounts_L1, if_pos (by simp [len_def]; omega), get_lt hc, hr, get_lt (rowOf_get hi), w_id (n := (i : Int) + 1) (by omega) (by omega), show ((i : Int) + 1) = ((i + 1 : Nat) : Int) by omega]
  simp only [Option.bind_some]
  rw [w_id (by omega) (by omega)]
  unfold cellO
  by_cases h1 : 0 < c.count
  ·by_cases h2 : c.count = (tot s.heap s.heap i : Int) + ownT s s.frames.length Z i
   ·simp [h1, ← h2]
   ·simp [h1, h2]
  ·simp [h1]
theorem foldN_pair {α β : Type} (f : Nat → α → α) (g : Nat → β → β) : ∀ (n : Nat) (a : α) (b : β), foldN (fun i (p : α × β) => (f i p.1, g i p.2)) n (a, b) = (foldN f n a, foldN g n b)
 | 0, _, _ => rfl
 | n + 1, a, b => by
  show (f n (foldN _ n (a, b)).1, g n (foldN _ n (a, b)).2) = (f n (foldN f n a), g n (foldN g n b))
  rw [foldN_pair f g n a b]
def rows2 (n : Nat) (p : (Nat → Int) × (Nat → Int)) : List Int × List Int := (rowOf n p.1, rowOf n p.2)
theorem kept_in {h : List Cell} {w : Int} (hk : kept h w = true) : 1000 ≤ w ∧ w - 1000 < (h.length : Int) ∧ ∃ c, h[(w - 1000).toNat]? = some c ∧ c.count < 0 := by
 unfold kept at hk
 simp only [Bool.and_eq_true, decide_eq_true_eq] at hk
 obtain ⟨h1, h2⟩ := hk
 cases hc : h[(w - 1000).toNat]? with
 | none => rw [hc] at h2; cases h2
 | some c =>
  rw [hc] at h2
  have := (List.getElem?_eq_some_iff.1 hc).1
  exact ⟨h1, by omega, c, rfl, of_decide_eq_true h2⟩
theorem kept_test {h : List Cell} {w : Int} (hl : h.length ≤ 1048576) (hw : I64 w) :
  (if (decide ((Sh.w (w - 1000)) < 0)) = true then some true else if (decide ((Sh.len h) ≤ (Sh.w (w - 1000)))) = true then some true else Option.bind (Sh.get h (Sh.w (w - 1000))) fun c37 => some (decide (0 ≤ c37.count))) = some (!kept h w) := by
 obtain ⟨w1, w2⟩ := hw
 rw [len_def]
 by_cases h1 : -9223372036854775808 ≤ w - 1000
 ·rw [w_id h1 (by omega)]
  by_cases h2 : 1000 ≤ w
  ·have h2' : ¬ w - 1000 < 0 := by omega
   by_cases h3 : (h.length : Int) ≤ w - 1000
   ·have : kept h w = false := by unfold kept; rw [List.getElem?_eq_none (by omega)]; simp
    simp [h2', h3, this]
   ·obtain ⟨c, hc, hc2⟩ := get_pos (l := h) (j := w - 1000) (by omega) (by omega)
    rw [hc]
    by_cases h4 : c.count < 0
    ·have h4' : ¬ 0 ≤ c.count := by omega
     have : kept h w = true := by unfold kept; rw [hc2]; simp [h2, h4]
     simp [h2', h3, h4', this]
    ·have h4' : 0 ≤ c.count := by omega
     have : kept h w = false := by unfold kept; rw [hc2]; simp [h4]
     simp [h2', h3, h4', this]
  ·have h2' : w - 1000 < 0 := by omega
   have : kept h w = false := by unfold kept; simp [h2]
   simp [h2', this]
 ·have e0 : Sh.w (w - 1000) = w - 1000 + 18446744073709551616 := Abs.wrap_low (by omega) (by omega)
  rw [e0]
  have h2 : ¬ w - 1000 + 18446744073709551616 < 0 := by omega
  have h3 : (h.length : Int) ≤ w - 1000 + 18446744073709551616 := by omega
  have : kept h w = false := by unfold kept; simp; omega
  simp [h2, h3, this]
theorem tally_eq {f : RFrame} {h : List Cell} (hh : h.length ≤ 1048576) (hz : fz f ≤ 1048576) (hin : RFrameIn f) (hl1 : f.own.length = f.regs.length) (hl2 : f.held.length = f.regs.length) (hr : allR f.regs.length (regI f) = true)
  {A B : Nat} (hA : A ≤ 1048577000000) (hB : B ≤ 1048576) {N : Nat} (hN : 2000000 ≤ N) {F G : Nat → Int} (hF : JO A 0 F) (hG : JB B 0 G) :
  (allR f.regs.length (lvB h f) = true ∧ allR f.held.length (hdB h f) = true ∧ impl_Frame_tally N (rowOf h.length F) (rowOf h.length G) f h = some (true, rowOf h.length (ownF f F), rowOf h.length (heldF f G)) ∧ JO A f.own.length (ownF f F) ∧ JB B f.own.length (heldF f G)) ∨
  ((allR f.regs.length (lvB h f) && allR f.held.length (hdB h f)) = false ∧ ∃ a b, impl_Frame_tally N (rowOf h.length F) (rowOf h.length G) f h = some (false, a, b)) := by
 unfold RC.fz at hz
 have stp : ∀ n i (p : (Nat → Int) × (Nat → Int)), i < f.own.length → (JO A i p.1 ∧ JB B i p.2) →
   ((lvB h f i && hdB h f i) = true → (JO A (i + 1) (osr f i p.1) ∧ JB B (i + 1) (hsr f i p.2)) ∧ impl_Frame_tally_L1 f h (n + 1) (i : Int) (rows2 h.length p).1 (rows2 h.length p).2 = impl_Frame_tally_L1 f h n ((i + 1 : Nat) : Int) (rows2 h.length (osr f i p.1, hsr f i p.2)).1 (rows2 h.length (osr f i p.1, hsr f i p.2)).2) ∧
   ((lvB h f i && hdB h f i) = false → ∃ e, (∃ a b, e = Sum.inl (false, a, b)) ∧ impl_Frame_tally_L1 f h (n + 1) (i : Int) (rows2 h.length p).1 (rows2 h.length p).2 = some e) := by
  intro n i ⟨F, G⟩ hi ⟨hF, hG⟩
  unfold rows2
  dsimp only at hF hG ⊢
  have hri := allR_iff.1 hr i (by omega)
  obtain ⟨w1, w2⟩ := hin.regs.1 _ (at0_mem (l := f.regs) (r := i) (by omega))
  obtain ⟨v1, v2⟩ := hin.held.1 _ (at0_mem (l := f.held) (r := i) (by omega))
  have e0 : (Sh.w ((i : Int) + 1)) = ((i + 1 : Nat) : Int) := by rw [w_id (by omega) (by omega)]; omega
  rw [impl_Frame_tally_L1, if_pos (by simp [len_def]; omega), at0_get hi, at0_get (l := f.regs) (by omega), at0_get (l := f.held) (by omega), e0]
  simp only [Option.bind_some]
  rw [kept_test hh ⟨v1, v2⟩]
  rw [liveAt_eq hh ⟨w1, w2⟩]
  simp only [Option.bind_some, Bool.not_not]
  have second : ∀ R : List Int, hdB h f i = true → (if (!decide (at0 f.held i = 0)) = true then
     if (!kept h (at0 f.held i)) = true then (some (Sum.inl (Sum.inl (false, R, rowOf h.length G))) : Option (((Bool × List Int × List Int) ⊕ (List Int × List Int)) ⊕ (List Int × List Int)))
     else Option.bind (Sh.get (rowOf h.length G) (Sh.w (at0 f.held i - 1000))) fun c34 => some (Sum.inr (R, Sh.put (rowOf h.length G) (Sh.w (at0 f.held i - 1000)) (Sh.w (c34 + 1))))
    else some (Sum.inr (R, rowOf h.length G))) = some (Sum.inr (R, rowOf h.length (hsr f i G))) := by
   intro R hd
   unfold hdB at hd
   by_cases h0 : at0 f.held i = 0
   ·have e : hsr f i G = G := by funext j; unfold hsr; rw [if_neg (by omega)]
    simp [h0, e]
   ·simp only [h0, decide_false, Bool.false_or] at hd
    obtain ⟨h1, h2, _⟩ := kept_in hd
    have hb := hG (at0 f.held i - 1000).toNat
    rw [w_id (n := at0 f.held i - 1000) (by omega) (by omega), row_get h1 h2]
    simp only [h0, hd, decide_false, Bool.not_false, Bool.not_true, if_true, Bool.false_eq_true, if_false, Option.bind_some]
    rw [row_put h1, w_id (by omega) (by omega)]
    congr 3
    refine rowOf_congr fun j _ => ?_
    unfold hsr
    by_cases hj : (j : Int) + 1000 = at0 f.held i
    ·rw [if_pos hj, if_pos hj, show (at0 f.held i - 1000).toNat = j by omega]
    ·rw [if_neg hj, if_neg hj]
  have sec2 : ∀ R : List Int, hdB h f i = false → (if (!decide (at0 f.held i = 0)) = true then
     if (!kept h (at0 f.held i)) = true then (some (Sum.inl (Sum.inl (false, R, rowOf h.length G))) : Option (((Bool × List Int × List Int) ⊕ (List Int × List Int)) ⊕ (List Int × List Int)))
     else Option.bind (Sh.get (rowOf h.length G) (Sh.w (at0 f.held i - 1000))) fun c34 => some (Sum.inr (R, Sh.put (rowOf h.length G) (Sh.w (at0 f.held i - 1000)) (Sh.w (c34 + 1))))
    else some (Sum.inr (R, rowOf h.length G))) = some (Sum.inl (Sum.inl (false, R, rowOf h.length G))) := by
   intro R hd
   unfold hdB at hd
   simp only [Bool.or_eq_false_iff, decide_eq_false_iff_not] at hd
   simp [hd.1, hd.2]
  by_cases ho : 0 < at0 f.own i
  ·cases hlv : liveW h (at0 f.regs i) with
   | false =>
    have hv : lvB h f i = false := by unfold lvB; simp [ho, hlv]
    rw [hv]
    refine ⟨fun h => (by cases h), fun _ => ⟨_, ⟨rowOf h.length F, rowOf h.length G, rfl⟩, ?_⟩⟩
    simp [ho, Sh.cont]
   | true =>
    have hv : lvB h f i = true := by unfold lvB; simp [hlv]
    obtain ⟨h1, h2, g1, g2⟩ := own_step rfl hA hri hv hF (by omega) ho
    rw [w_id (n := at0 f.regs i - 1000) (by omega) (by omega), g1]
    simp only [ho, decide_true, if_true, Bool.not_true, Bool.false_eq_true, if_false, Option.bind_some, Sh.cont]
    rw [g2, hv]
    cases hd : hdB h f i with
    | true =>
     refine ⟨fun _ => ⟨⟨osr_J hri hF, hsr_J hG⟩, ?_⟩, fun h => by cases h⟩
     rw [second _ hd]
    | false =>
     refine ⟨fun h => (by cases h), fun _ => ⟨_, ⟨rowOf h.length (osr f i F), rowOf h.length G, rfl⟩, ?_⟩⟩
     rw [sec2 _ hd]; rfl
  ·have hv : lvB h f i = true := by unfold lvB; simp [ho]
   have e : osr f i F = F := by funext j; unfold osr; rw [if_neg fun h => ho h.1]
   have hJF := osr_J hri hF
   rw [e] at hJF ⊢
   rw [hv]
   simp only [ho, decide_false, Bool.false_eq_true, if_false, Sh.cont]
   cases hd : hdB h f i with
   | true =>
    refine ⟨fun _ => ⟨⟨hJF, hsr_J hG⟩, ?_⟩, fun h => by cases h⟩
    rw [second _ hd]
   | false =>
    refine ⟨fun h => (by cases h), fun _ => ⟨_, ⟨rowOf h.length F, rowOf h.length G, rfl⟩, ?_⟩⟩
    rw [sec2 _ hd]; rfl
 have spl : ∀ p, (allR f.own.length fun i => lvB h f i && hdB h f i) = p → (allR f.regs.length (lvB h f) && allR f.held.length (hdB h f)) = p := by
  intro p hp
  rw [← hp, ← hl1, hl2, ← hl1]
  unfold allR
  induction List.range f.own.length with
  | nil => rfl
  | cons x r ih => simp only [List.all_cons]; rw [← ih]; cases lvB h f x <;> cases hdB h f x <;> cases r.all (lvB h f) <;> simp
 unfold impl_Frame_tally
 rcases cnt_loop (τ := (Nat → Int) × (Nat → Int)) f.own.length (fun n i (r : List Int × List Int) => impl_Frame_tally_L1 f h n i r.1 r.2) (Sum.inr) (rows2 h.length) (fun i => lvB h f i && hdB h f i) (fun i p => (osr f i p.1, hsr f i p.2)) (fun i p => JO A i p.1 ∧ JB B i p.2) (fun e => ∃ a b, e = Sum.inl (false, a, b))
  (fun n r => by rw [impl_Frame_tally_L1, if_neg (by simp [len_def])]) stp (by omega : f.own.length < N) (s := (F, G)) ⟨hF, hG⟩ with ⟨a, b, c⟩ | ⟨ho, e, ⟨a, b, he⟩, hb⟩
 ·have h1 := spl true (allR_iff.2 a)
  rw [Bool.and_eq_true] at h1
  rw [foldN_pair] at b c
  refine .inl ⟨h1.1, h1.2, ?_, c.1, ?_⟩
  ·have b' : impl_Frame_tally_L1 f h N 0 (rowOf h.length F) (rowOf h.length G) = _ := b
   rw [b']
   unfold heldF
   rw [hl2, ← hl1]; rfl
  ·unfold heldF
   rw [hl2, ← hl1]; exact c.2
 ·refine .inr ⟨spl false (allR_false ho), a, b, ?_⟩
  have b' : impl_Frame_tally_L1 f h N 0 (rowOf h.length F) (rowOf h.length G) = _ := hb
  rw [b', he]; rfl
end RC

