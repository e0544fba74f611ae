import Derived.Test.YtgcghdgbahfcjaaGreatIVB

namespace RC
open Go
structure SOK (s : RState) : Prop where
 hp : Hp s.heap
 tin : RStateIn s
 size : stz s ≤ 1048576
theorem SOK.fl {s : RState} (S : SOK s) : s.frames.length ≤ 1048576 := by have := S.size; unfold stz at this; omega
def hb (s : RState) (k : Nat) : Nat := ((s.frames.take k).map fz).sum
theorem hb_succ {s : RState} {k : Nat} (h : k < s.frames.length) : hb s (k + 1) = hb s k + fz (frA s k) := by
 unfold hb
 rw [take_snoc (frA_get h).2.2]; simp
theorem hb_le (s : RState) (k : Nat) : hb s k ≤ (s.frames.map fz).sum := by
 unfold hb
 have h : (s.frames.map fz).sum = ((s.frames.take k).map fz).sum + ((s.frames.drop k).map fz).sum := by
  rw [← List.sum_append_nat, ← List.map_append, List.take_append_drop]
 omega
theorem SOK.hb {s : RState} (S : SOK s) (k : Nat) : hb s k ≤ 1048576 := by
 have h := hb_le s k
 have := S.size; unfold stz at this; omega
theorem SOK.fz {s : RState} (S : SOK s) {f : RFrame} (hf : f ∈ s.frames) : fz f ≤ 1048576 := by
 have := mem_sum RC.fz hf
 have := S.size; unfold stz at this; omega
theorem SOK.fin {s : RState} (S : SOK s) {f : RFrame} (hf : f ∈ s.frames) : RFrameIn f := S.tin.frames.1 f hf
def inH (s : RState) (w : Int) : Bool := decide (1000 ≤ w) && decide (w - 1000 < (s.heap.length : Int))
def hiB (s : RState) (f : RFrame) (r : Nat) : Bool := decide (at0 f.held r = 0) || inH s (at0 f.held r)
def hiA (s : RState) (f : RFrame) : Bool := (List.range f.held.length).all (hiB s f)
theorem hiA_iff {s : RState} {f : RFrame} : hiA s f = true ↔ ∀ j, j < f.held.length → hiB s f j = true := by
 unfold hiA; rw [List.all_eq_true]; exact ⟨fun h j hj => h j (List.mem_range.2 hj), fun h j hj => h j (List.mem_range.1 hj)⟩
def JB (B : Nat) (i : Nat) (G : Nat → Int) : Prop := ∀ j, 0 ≤ G j ∧ G j ≤ (B : Int) + (i : Int)
theorem hsr_J {f : RFrame} {B i : Nat} {G : Nat → Int} (h : JB B i G) : JB B (i + 1) (hsr f i G) := fun j => by
 have := h j
 unfold hsr
 split <;> omega
theorem held_L3 {s : RState} (S : SOK s) {k : Nat} (hk : k < s.frames.length) {N : Nat} (hN : 2000000 ≤ N) {B : Nat} (hB : B ≤ 1048576) {G : Nat → Int} (hG : JB B 0 G) :
  (hiA s (frA s k) = true ∧ spec_heldOnce_L3 k s N 0 (rowOf s.heap.length G) = some (.inr (rowOf s.heap.length (heldF (frA s k) G))) ∧ JB B (frA s k).held.length (heldF (frA s k) G)) ∨
  (hiA s (frA s k) = false ∧ spec_heldOnce_L3 k s N 0 (rowOf s.heap.length G) = some (.inl false)) := by
 have hl := S.hp.len
 obtain ⟨g1, g2, g3⟩ := frA_get hk
 have hz := S.fz g2
 have hin := S.fin g2
 generalize hf : frA s k = f at *
 have hlen : f.held.length ≤ 1048576 := by unfold RC.fz at hz; omega
 have stp : ∀ n i G, i < f.held.length → JB B i G → (hiB s f i = true → JB B (i + 1) (hsr f i G) ∧ spec_heldOnce_L3 k s (n + 1) (i : Int) (rowOf s.heap.length G) = spec_heldOnce_L3 k s n ((i + 1 : Nat) : Int) (rowOf s.heap.length (hsr f i G))) ∧ (hiB s f i = false → ∃ e, e = Sum.inl false ∧ spec_heldOnce_L3 k s (n + 1) (i : Int) (rowOf s.heap.length G) = some e) := by
  intro n i G hi hJ
  obtain ⟨w1, w2⟩ := hin.held.1 _ (at0_mem hi)
  have e0 : (Sh.w ((i : Int) + 1)) = ((i + 1 : Nat) : Int) := by rw [w_id (by omega) (by omega)]; omega
  refine ⟨fun ho => ⟨hsr_J hJ, ?_⟩, fun ho => ⟨_, rfl, ?_⟩⟩
  ·rw [spec_heldOnce_L3, g1]
   simp only [Option.bind_some]
   rw [if_pos (by simp [len_def]; omega), at0_get hi, e0]
   simp only [Option.bind_some]
   unfold hiB inH at ho
   by_cases h0 : at0 f.held i = 0
   ·have e : hsr f i G = G := by funext j; unfold hsr; rw [if_neg (by omega)]
    simp [h0, Sh.cont, e]
   ·simp only [h0, decide_false, Bool.false_or, Bool.and_eq_true, decide_eq_true_eq] at ho
    obtain ⟨h1, h2⟩ := ho
    have hb := hJ (at0 f.held i - 1000).toNat
    have e1 : Sh.w (at0 f.held i - 1000) = at0 f.held i - 1000 := w_id (by omega) (by omega)
    have e2 : Sh.w ((s.heap.length : Int) - 1) = (s.heap.length : Int) - 1 := w_id (by omega) (by omega)
    have e3 : Sh.w (G (at0 f.held i - 1000).toNat + 1) = G (at0 f.held i - 1000).toNat + 1 := w_id (by omega) (by omega)
    unfold spec_isPointer
    simp only [h0, h1, decide_false, decide_true, Bool.not_false, Bool.not_true, if_true, Bool.false_eq_true, if_false, Option.bind_some, inRange_eq, len_def, e1, e2]
    rw [decide_eq_true (by omega : (0 : Int) ≤ at0 f.held i - 1000), decide_eq_true (by omega : at0 f.held i - 1000 ≤ (s.heap.length : Int) - 1), row_get h1 h2]
    simp only [Bool.and_self, Bool.not_true, Bool.false_eq_true, if_false, Option.bind_some, Sh.cont, e3]
    rw [row_put h1]
    congr 1
    refine rowOf_congr fun j _ => ?_
    unfold hsr
    by_cases hj : (j : Int) + 1000 = at0 f.held i
    ·rw [if_pos hj, if_pos hj, show (at0 f.held i - 1000).toNat = j by omega]
    ·rw [if_neg hj, if_neg hj]
  ·rw [spec_heldOnce_L3, g1]
   simp only [Option.bind_some]
   rw [if_pos (by simp [len_def]; omega), at0_get hi]
   simp only [Option.bind_some]
   unfold hiB inH at ho
   simp only [Bool.or_eq_false_iff, decide_eq_false_iff_not, Bool.and_eq_false_iff] at ho
   obtain ⟨h0, h1⟩ := ho
   unfold spec_isPointer
   by_cases hp : 1000 ≤ at0 f.held i
   ·have h2 : ¬ at0 f.held i - 1000 < (s.heap.length : Int) := by rcases h1 with h1 | h1 <;> omega
    have e1 : Sh.w (at0 f.held i - 1000) = at0 f.held i - 1000 := w_id (by omega) (by omega)
    have e2 : Sh.w ((s.heap.length : Int) - 1) = (s.heap.length : Int) - 1 := w_id (by omega) (by omega)
    have h3 : ¬ at0 f.held i - 1000 ≤ (s.heap.length : Int) - 1 := by omega
    simp [h0, hp, inRange_eq, len_def, e1, e2, h3, Sh.cont]
   ·simp [h0, hp, Sh.cont]
 rcases cnt_loop (τ := Nat → Int) f.held.length (spec_heldOnce_L3 k s) (Sum.inr) (rowOf s.heap.length) (hiB s f) (hsr f) (JB B) (fun e => e = .inl false)
  (fun n r => by rw [spec_heldOnce_L3, g1]; simp [len_def]) stp (by omega : f.held.length < N) hG with ⟨a, b, c⟩ | ⟨⟨j, hj, ho⟩, e, he, b⟩
 ·exact .inl ⟨hiA_iff.2 a, b, c⟩
 ·refine .inr ⟨?_, by rw [b, he]⟩
  cases h : hiA s f with
  | false => rfl
  | true => rw [hiA_iff.1 h j hj] at ho; cases ho
def allFr (s : RState) (p : Nat → Bool) : Bool := (List.range s.frames.length).all p
theorem allFr_iff {s : RState} {p : Nat → Bool} : allFr s p = true ↔ ∀ j, j < s.frames.length → p j = true := by
 unfold allFr; rw [List.all_eq_true]; exact ⟨fun h j hj => h j (List.mem_range.2 hj), fun h j hj => h j (List.mem_range.1 hj)⟩
theorem allFr_false {s : RState} {p : Nat → Bool} (h : ∃ j, j < s.frames.length ∧ p j = false) : allFr s p = false := by
 obtain ⟨j, hj, ho⟩ := h
 cases e : allFr s p with
 | false => rfl
 | true => rw [allFr_iff.1 e j hj] at ho; cases ho
def hiT (s : RState) : Bool := allFr s fun i => hiA s (frA s i)
def Z : Nat → Int := fun _ => 0
theorem held_L1 {s : RState} (S : SOK s) {N : Nat} (hN : 2000000 ≤ N) :
  spec_heldOnce_L1 N s N 0 (rowOf s.heap.length Z) = some (if hiT s = true then .inr (rowOf s.heap.length (heldT s s.frames.length Z)) else .inl false) ∧ (∀ j, 0 ≤ heldT s s.frames.length Z j) := by
 have hfl := S.fl
 have hpos : ∀ j, 0 ≤ heldT s s.frames.length Z j := fun j => by
  obtain ⟨a, b⟩ := heldT_hit s j s.frames.length Z
  by_cases h : ∃ i, i < s.frames.length ∧ hitF (frA s i) j
  ·have := a h; have z : Z j = 0 := rfl; omega
  ·rw [b h]; exact Int.le_refl _
 refine ⟨?_, hpos⟩
 have stp : ∀ n i G, i < s.frames.length → JB (hb s i) 0 G → (hiA s (frA s i) = true → JB (hb s (i + 1)) 0 (heldF (frA s i) G) ∧ spec_heldOnce_L1 N s (n + 1) (i : Int) (rowOf s.heap.length G) = spec_heldOnce_L1 N s n ((i + 1 : Nat) : Int) (rowOf s.heap.length (heldF (frA s i) G))) ∧ (hiA s (frA s i) = false → ∃ e, e = Sum.inl false ∧ spec_heldOnce_L1 N s (n + 1) (i : Int) (rowOf s.heap.length G) = some e) := by
  intro n i G hi hJ
  have e0 : (Sh.w ((i : Int) + 1)) = ((i + 1 : Nat) : Int) := by rw [w_id (by omega) (by omega)]; omega
  rcases held_L3 S hi hN (S.hb i) hJ with ⟨a, b, c⟩ | ⟨a, b⟩
  ·refine ⟨fun _ => ⟨fun j => ?_, ?_⟩, fun h => by rw [a] at h; cases h⟩
   ·have := c j
    have h2 := hb_succ hi
    have h3 : (frA s i).held.length ≤ fz (frA s i) := by unfold fz; omega
    omega
   ·rw [spec_heldOnce_L1, if_pos (by simp [len_def]; omega), b, e0]; rfl
  ·refine ⟨fun h => (by rw [a] at h; cases h), fun _ => ⟨_, rfl, ?_⟩⟩
   rw [spec_heldOnce_L1, if_pos (by simp [len_def]; omega), b]; rfl
 have hZ : JB (hb s 0) 0 Z := fun j => ⟨Int.le_refl _, by unfold Z; omega⟩
 rcases cnt_loop (τ := Nat → Int) s.frames.length (spec_heldOnce_L1 N s) (Sum.inr) (rowOf s.heap.length) (fun i => hiA s (frA s i)) (fun i => heldF (frA s i)) (fun i => JB (hb s i) 0) (fun e => e = .inl false)
  (fun n r => by rw [spec_heldOnce_L1, if_neg (by simp [len_def])]) stp (by omega : s.frames.length < N) hZ with ⟨a, b, c⟩ | ⟨h, e, he, b⟩
 ·rw [b, if_pos (show hiT s = true from allFr_iff.2 a)]; rfl
 ·rw [b, he, if_neg (by rw [show hiT s = false from allFr_false h]; simp)]
theorem cont_all' {β γ : Type} {b : Bool} {x : γ} {K : γ → Option β} {g : Bool → β} : Sh.cont (some (if b = true then Sum.inr x else Sum.inl false)) g K = if b = true then K x else some (g false) := by
 cases b <;> rfl
def cellH (M : Nat → Int) (i : Nat) (c : Cell) : Bool := (!decide (c.count < 0) || decide (M i = 1)) && (!decide (0 ≤ c.count) || decide (M i = 0))
theorem heldOnce_eq {s : RState} (S : SOK s) {N : Nat} (hN : 2000000 ≤ N) : spec_heldOnce N s = some (hiT s && allAt (cellH (heldT s s.frames.length Z)) 0 s.heap) := by
 have hl := S.hp.len
 unfold spec_heldOnce
 rw [len_def, mk_ok _ s.heap.length 8 (by omega) (by omega), rowOf_const]
 simp only [Option.bind_some]
 rw [show (fun _ : Nat => (0 : Int)) = Z from rfl, (held_L1 S hN).1, cont_all']
 cases hiT s with
 | false => rfl
 | true =>
  simp only [if_true, Bool.true_and]
  have L := all_loop (l := s.heap) (spec_heldOnce_L2 (rowOf s.heap.length (heldT s s.frames.length Z)) s) (cellH (heldT s s.frames.length Z)) (fun n => by rw [spec_heldOnce_L2, if_neg (by simp [len_def, rowOf_len])]) (fun n i c hc => ?_) (by omega : s.heap.length < N)
  ·rw [L, cont_all]
   cases allAt (cellH (heldT s s.frames.length Z)) 0 s.heap <;> rfl
  ·have hi := (List.getElem?_eq_some_iff.1 hc).1
   have e0 : (Sh.w ((i : Int) + 1)) = ((i + 1 : Nat) : Int) := by rw [w_id (by omega) (by omega)]; omega
   rw [spec_heldOnce_L2, if_pos (by simp [len_def, rowOf_len]; omega), get_lt hc, get_lt (rowOf_get hi), e0]
   simp only [Option.bind_some]
   unfold cellH
   generalize heldT s s.frames.length Z i = m
   by_cases h1 : c.count < 0
   ·have h2 : ¬ 0 ≤ c.count := by omega
    by_cases h3 : m = 1 <;> simp [h1, h2, h3]
   ·have h2 : 0 ≤ c.count := by omega
    by_cases h3 : m = 0 <;> simp [h1, h2, h3]
end RC

