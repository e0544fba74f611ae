import Derived.Test.YtgcghdgbahfcjaaGreatIVE

namespace RC
open Go
theorem dst_impl {s : RState} (Q : SOK s) {i : Nat} (hi : i < s.frames.length) :
  (if (decide ((i : Int) = 0)) = true then
      if (!decide ((frA s i).dst = 0)) = true then some true
      else
      if (decide (0 < (i : Int))) = true then
       if (decide ((frA s i).dst < 0)) = true then some true
       else
        Option.bind (Sh.get s.frames (Sh.w ((i : Int) - 1))) fun c86 =>
        if (decide ((Sh.len c86.own) ≤ (frA s i).dst)) = true then some true
        else
         Option.bind (Sh.get c86.own (frA s i).dst) fun c88 => some (!decide (c88 = 0))
      else some false
     else
     if (decide (0 < (i : Int))) = true then
      if (decide ((frA s i).dst < 0)) = true then some true
      else
       Option.bind (Sh.get s.frames (Sh.w ((i : Int) - 1))) fun c91 =>
       if (decide ((Sh.len c91.own) ≤ (frA s i).dst)) = true then some true
       else
        Option.bind (Sh.get c91.own (frA s i).dst) fun c93 => some (!decide (c93 = 0))
     else some false) = some (!dstB s i) := by
 have hfl := Q.fl
 unfold dstB
 by_cases h0 : i = 0
 ·subst h0
  by_cases d : (frA s 0).dst = 0 <;> simp [d]
 ·have h0' : ¬ (i : Int) = 0 := by omega
  have h1 : (0 : Int) < (i : Int) := by omega
  have e1 : Sh.w ((i : Int) - 1) = ((i - 1 : Nat) : Int) := by rw [w_id (by omega) (by omega)]; omega
  obtain ⟨b1, b2, b3⟩ := frA_get (s := s) (i := i - 1) (by omega)
  rw [e1, b1, if_neg (by simpa using h0'), if_pos (by simpa using h1), if_neg h0]
  simp only [Option.bind_some, len_def]
  by_cases d1 : (frA s i).dst < 0
  ·have d1' : ¬ 0 ≤ (frA s i).dst := by omega
   simp [d1, d1']
  ·have d1' : 0 ≤ (frA s i).dst := by omega
   by_cases d2 : ((frA s (i - 1)).own.length : Int) ≤ (frA s i).dst
   ·have d2' : ¬ (frA s i).dst < ((frA s (i - 1)).own.length : Int) := by omega
    simp [d1, d2, d2']
   ·have d2' : (frA s i).dst < ((frA s (i - 1)).own.length : Int) := by omega
    obtain ⟨q, hq⟩ := Int.eq_ofNat_of_zero_le d1'
    have e3 : Sh.get (frA s (i - 1)).own (frA s i).dst = some (at0 (frA s (i - 1)).own (frA s i).dst.toNat) := by
     rw [hq]; exact at0_get (by omega)
    rw [e3]
    simp [d1, d1', d2, d2']
def okF (im : RImage) (s : RState) (i : Nat) : Bool := fvB im (frA s i) && (dstB s i && (lvA s (frA s i) && hdA s (frA s i)))
def cellI2 (s : RState) (i : Nat) (c : Cell) : Bool := (!decide (0 < c.count) || decide (c.count = (tot s.heap s.heap i : Int) + ownT s s.frames.length Z i)) && (!decide (c.count < 0) || decide (heldT s s.frames.length Z i = 1))
def R0 (s : RState) : Nat → Int := fun j => (tot s.heap s.heap j : Int)
theorem impl_L1 {im : RImage} (S : ISmall im) {s : RState} (Q : SOK s) {N : Nat} (hN : 2000000 ≤ N) :
  (allFr s (okF im s) = true ∧ impl_stateValid_L1 N im s N 0 (refs s.heap) (rowOf s.heap.length Z) = some (.inr (rowOf s.heap.length (fun j => (tot s.heap s.heap j : Int) + ownT s s.frames.length Z j), rowOf s.heap.length (heldT s s.frames.length Z)))) ∨
  (allFr s (okF im s) = false ∧ impl_stateValid_L1 N im s N 0 (refs s.heap) (rowOf s.heap.length Z) = some (.inl false)) := by
 have hl := Q.hp.len
 have hfl := Q.fl
 have stp : ∀ n i (p : (Nat → Int) × (Nat → Int)), i < s.frames.length → (JO (1048576 + 999999 * hb s i) 0 p.1 ∧ JB (hb s i) 0 p.2) →
   (okF im s i = true → (JO (1048576 + 999999 * hb s (i + 1)) 0 (ownF (frA s i) p.1) ∧ JB (hb s (i + 1)) 0 (heldF (frA s i) p.2)) ∧
    (fun n i (r : List Int × List Int) => impl_stateValid_L1 N im s n i r.1 r.2) (n + 1) (i : Int) (rows2 s.heap.length p) = (fun n i (r : List Int × List Int) => impl_stateValid_L1 N im s n i r.1 r.2) n ((i + 1 : Nat) : Int) (rows2 s.heap.length (ownF (frA s i) p.1, heldF (frA s i) p.2))) ∧
   (okF im s i = false → ∃ e, e = Sum.inl false ∧ (fun n i (r : List Int × List Int) => impl_stateValid_L1 N im s n i r.1 r.2) (n + 1) (i : Int) (rows2 s.heap.length p) = some e) := by
  intro n i ⟨F, G⟩ hi ⟨hF, hG⟩
  unfold rows2
  dsimp only at hF hG ⊢
  obtain ⟨g1, g2, g3⟩ := frA_get hi
  have hz := Q.fz g2
  have hin := Q.fin g2
  have hb1 := Q.hb i
  have e0 : (Sh.w ((i : Int) + 1)) = ((i + 1 : Nat) : Int) := by rw [w_id (by omega) (by omega)]; omega
  rw [impl_stateValid_L1, if_pos (by simp [len_def]; omega), g1, e0]
  simp only [Option.bind_some]
  rw [impl_frame_eq S hz hN, dst_impl Q hi]
  simp only [Option.bind_some, Bool.not_not]
  unfold okF
  cases hv : fvB im (frA s i) with
  | false => exact ⟨fun h => by simp at h, fun _ => ⟨_, rfl, by simp⟩⟩
  | true =>
   cases hd : dstB s i with
   | false => exact ⟨fun h => by simp at h, fun _ => ⟨_, rfl, by simp⟩⟩
   | true =>
    obtain ⟨l1, l2, l3⟩ := lens_of hv
    rcases tally_eq hl hz hin l1 l2 l3 (A := 1048576 + 999999 * hb s i) (B := hb s i) (by omega) hb1 hN hF hG with ⟨a1, a2, a3, a4, a5⟩ | ⟨a1, x, y, a2⟩
    ·rw [a3]
     refine ⟨fun _ => ⟨⟨own_bound Q hi (JO_shift a4), fun j => ?_⟩, by simp⟩, fun h => ?_⟩
     ·have := a5 j
      have h2 := hb_succ hi
      have h3 : (frA s i).own.length ≤ fz (frA s i) := by unfold fz; omega
      omega
     ·unfold lvA hdA at h
      rw [a1, a2] at h; cases h
    ·rw [a2]
     unfold lvA hdA
     rw [a1]
     exact ⟨fun h => by simp at h, fun _ => ⟨_, rfl, by simp⟩⟩
 have hJ0 : JO (1048576 + 999999 * hb s 0) 0 (R0 s) ∧ JB (hb s 0) 0 Z := ⟨fun j => by have := tot_small Q j; unfold R0; omega, fun j => ⟨Int.le_refl _, by unfold Z; omega⟩⟩
 have hadd : foldN (fun i => ownF (frA s i)) s.frames.length (R0 s) = fun j => (tot s.heap s.heap j : Int) + ownT s s.frames.length Z j := by
  have := ownT_add s s.frames.length (R0 s) Z
  have e : (fun j => R0 s j + Z j) = R0 s := by funext j; unfold Z; omega
  rw [e] at this
  exact this
 rcases cnt_loop (τ := (Nat → Int) × (Nat → Int)) s.frames.length (fun n i (r : List Int × List Int) => impl_stateValid_L1 N im s n i r.1 r.2) (Sum.inr) (rows2 s.heap.length) (okF im s) (fun i p => (ownF (frA s i) p.1, heldF (frA s i) p.2)) (fun i p => JO (1048576 + 999999 * hb s i) 0 p.1 ∧ JB (hb s i) 0 p.2) (fun e => e = Sum.inl false)
  (fun n r => by rw [impl_stateValid_L1, if_neg (by simp [len_def])]) stp (by omega : s.frames.length < N) (s := (R0 s, Z)) hJ0 with ⟨a, b, c⟩ | ⟨ho, e, he, hb⟩
 ·refine .inl ⟨allFr_iff.2 a, ?_⟩
  rw [foldN_pair, hadd] at b
  exact b
 ·refine .inr ⟨allFr_false ho, ?_⟩
  rw [he] at hb
  exact hb
theorem impl_tail {im : RImage} (S : ISmall im) {s : RState} (Q : SOK s) {N : Nat} (hN : 2000000 ≤ N) :
  (Option.bind (Sh.mk (0 : Int) (Sh.len s.heap) 8) fun l23 =>
    Sh.cont (impl_stateValid_L1 N im s N 0 (refs s.heap) l23) (id) fun (l29, l30) =>
    Sh.cont (impl_stateValid_L2 l29 l30 s N 0) (id) fun () =>
    some true) = some (allFr s (okF im s) && allAt (cellI2 s) 0 s.heap) := by
 have hl := Q.hp.len
 rw [len_def, mk_ok _ s.heap.length 8 (by omega) (by omega), rowOf_const, show (fun _ : Nat => (0 : Int)) = Z from rfl]
 simp only [Option.bind_some]
 rcases impl_L1 S Q hN with ⟨a, b⟩ | ⟨a, b⟩
 ·rw [a, b]
  simp only [Sh.cont, Bool.true_and]
  have L := all_loop (l := s.heap) (impl_stateValid_L2 (rowOf s.heap.length (fun j => (tot s.heap s.heap j : Int) + ownT s s.frames.length Z j)) (rowOf s.heap.length (heldT s s.frames.length Z)) s) (cellI2 s) (fun n => by rw [impl_stateValid_L2, if_neg (by simp [len_def])]) (fun n i c hc => ?_) (by omega : s.heap.length < N)
  ·rw [L]
   cases allAt (cellI2 s) 0 s.heap <;> rfl
  ·have hi := (List.getElem?_eq_some_iff.1 hc).1
   rw [impl_stateValid_L2, if_pos (by simp [len_def]; omega), get_lt hc, get_lt (rowOf_get hi), get_lt (rowOf_get hi), w_id (n := (i : Int) + 1) (by omega) (by omega), show ((i : Int) + 1) = ((i + 1 : Nat) : Int) by omega]
   simp only [Option.bind_some]
   unfold cellI2
   generalize (tot s.heap s.heap i : Int) + ownT s s.frames.length Z i = m
   generalize heldT s s.frames.length Z i = k
   by_cases h1 : 0 < c.count
   ·have h2 : ¬ c.count < 0 := by omega
    by_cases h3 : c.count = m
    ·have h1' : 0 < m := by omega
     have h2' : ¬ m < 0 := by omega
     simp [h3, h1', h2']
    ·simp [h1, h2, h3]
   ·by_cases h2 : c.count < 0 <;> by_cases h3 : k = 1 <;> simp [h1, h2, h3]
 ·rw [a, b]; rfl
def okS2 (im : RImage) (s : RState) (i : Nat) : Bool := fvB im (frA s i) && (lvA s (frA s i) && dstB s i)
theorem spec_tail {im : RImage} (S : ISmall im) {s : RState} (Q : SOK s) {N : Nat} (hN : 2000000 ≤ N) :
  (Sh.cont (spec_validState_L1 N im s N 0) (id) fun () =>
    Option.bind (Option.bind (spec_heldOnce N s) fun q27 => if q27 = true then Option.bind (spec_exactCounts N s) fun q29 => some q29 else some false) fun t25 =>
    some t25) = some (allFr s (okS2 im s) && ((hiT s && allAt (cellH (heldT s s.frames.length Z)) 0 s.heap) && allAt (cellO s) 0 s.heap)) := by
 have hfl := Q.fl
 have e : allFr s (okS2 im s) = allAt (fun i _ => okS2 im s i) 0 s.frames := by rw [allR_all]; rfl
 rw [all_loop (l := s.frames) (spec_validState_L1 N im s) (fun i _ => okS2 im s i) (fun n => by rw [spec_validState_L1, if_neg (by simp [len_def])]) (fun n i f hf => ?_) (by omega), cont_all, ← e]
 ·cases ha : allFr s (okS2 im s) with
  | false => simp
  | true =>
   have hv : ∀ i, i < s.frames.length → fvB im (frA s i) = true ∧ lvA s (frA s i) = true := fun i hi => by
    have := allFr_iff.1 ha i hi
    unfold okS2 at this
    simp only [Bool.and_eq_true] at this
    exact ⟨this.1, this.2.1⟩
   rw [heldOnce_eq Q hN, exact_eq Q hv hN]
   simp only [if_true, Option.bind_some, Bool.true_and]
   cases hiT s <;> cases allAt (cellH (heldT s s.frames.length Z)) 0 s.heap <;> simp
 ·have hi := (List.getElem?_eq_some_iff.1 hf).1
  rw [spec_validState_L1, if_pos (by simp [len_def]; omega), spec_frame_eq S Q hi hN, w_id (by omega) (by omega), show ((i : Int) + 1) = ((i + 1 : Nat) : Int) by omega]
  simp only [Option.bind_some]
  have : (fvB im (frA s i) && (allR (frA s i).regs.length (lvB s.heap (frA s i)) && dstB s i)) = okS2 im s i := rfl
  rw [this]
  cases okS2 im s i <;> simp
theorem bool_iff {a b : Bool} (h : a = true ↔ b = true) : a = b := by cases a <;> cases b <;> simp at h ⊢
theorem tails {im : RImage} {s : RState} : (allFr s (okS2 im s) && ((hiT s && allAt (cellH (heldT s s.frames.length Z)) 0 s.heap) && allAt (cellO s) 0 s.heap)) = (allFr s (okF im s) && allAt (cellI2 s) 0 s.heap) := by
 apply bool_iff
 simp only [Bool.and_eq_true]
 unfold hiT
 rw [allFr_iff, allFr_iff, allFr_iff, allAt_iff, allAt_iff, allAt_iff]
 have hitT := fun j => heldT_hit s j s.frames.length Z
 constructor
 ·rintro ⟨h1, ⟨h2, h3⟩, h4⟩
  refine ⟨fun i hi => ?_, fun i c hc => ?_⟩
  ·have a := h1 i hi
   have b := hiA_iff.1 (h2 i hi)
   unfold okS2 at a
   simp only [Bool.and_eq_true] at a
   unfold okF
   rw [a.1, a.2.1, a.2.2]
   simp only [Bool.true_and]
   unfold hdA
   refine allR_iff.2 fun r hr => ?_
   have c := b r hr
   unfold hiB at c
   unfold hdB
   cases h0 : decide (at0 (frA s i).held r = 0) with
   | true => rfl
   | false =>
    rw [h0] at c
    unfold inH at c
    simp only [Bool.false_or, Bool.and_eq_true, decide_eq_true_eq] at c
    obtain ⟨c1, c2⟩ := c
    obtain ⟨x, hx, _⟩ := at_lt (l := s.heap) (i := (at0 (frA s i).held r - 1000).toNat) (by omega)
    have g := h3 _ x hx
    have t := (hitT (at0 (frA s i).held r - 1000).toNat).1 ⟨i, hi, r, hr, by omega⟩
    have z : Z (at0 (frA s i).held r - 1000).toNat = 0 := rfl
    rw [Nat.zero_add] at g
    unfold cellH at g
    unfold kept
    rw [hx]
    simp only [Bool.and_eq_true, Bool.or_eq_true, Bool.not_eq_true', decide_eq_false_iff_not, decide_eq_true_eq, Bool.false_or] at g ⊢
    refine ⟨c1, ?_⟩
    rcases g.2 with g2 | g2
    ·omega
    ·omega
  ·have a := h3 i c hc
   have b := h4 i c hc
   rw [Nat.zero_add] at a b ⊢
   unfold cellH at a
   unfold cellO at b
   unfold cellI2
   simp only [Bool.and_eq_true] at a
   rw [b, a.1]; rfl
 ·rintro ⟨h1, h2⟩
  have hk : ∀ i, i < s.frames.length → fvB im (frA s i) = true ∧ dstB s i = true ∧ lvA s (frA s i) = true ∧ hdA s (frA s i) = true := fun i hi => by
   have a := h1 i hi
   unfold okF at a
   simp only [Bool.and_eq_true] at a
   exact a
  refine ⟨fun i hi => ?_, ⟨fun i hi => ?_, fun i c hc => ?_⟩, fun i c hc => ?_⟩
  ·obtain ⟨a, b, c, d⟩ := hk i hi
   unfold okS2; rw [a, b, c]; rfl
  ·obtain ⟨_, _, _, d⟩ := hk i hi
   refine hiA_iff.2 fun r hr => ?_
   have e := allR_iff.1 d r hr
   unfold hdB at e
   unfold hiB
   cases h0 : decide (at0 (frA s i).held r = 0) with
   | true => rfl
   | false =>
    rw [h0, Bool.false_or] at e
    obtain ⟨c1, c2, _⟩ := kept_in e
    unfold inH
    simp [c1, c2]
  ·have a := h2 i c hc
   rw [Nat.zero_add] at a ⊢
   unfold cellI2 at a
   unfold cellH
   simp only [Bool.and_eq_true] at a ⊢
   refine ⟨a.2, ?_⟩
   simp only [Bool.or_eq_true, Bool.not_eq_true', decide_eq_false_iff_not, decide_eq_true_eq]
   by_cases h0 : 0 ≤ c.count
   ·refine .inr ?_
    refine (hitT i).2 fun ⟨k, hkk, r, hr, he⟩ => ?_
    obtain ⟨_, _, _, d⟩ := hk k hkk
    have e := allR_iff.1 d r hr
    unfold hdB at e
    rw [decide_eq_false (by omega), Bool.false_or] at e
    obtain ⟨c1, c2, x, hx, hc2⟩ := kept_in e
    rw [show (at0 (frA s k).held r - 1000).toNat = i by omega, hc] at hx
    cases hx
    omega
   ·exact .inl h0
  ·have a := h2 i c hc
   rw [Nat.zero_add] at a ⊢
   unfold cellI2 at a
   unfold cellO
   simp only [Bool.and_eq_true] at a
   exact a.1
theorem contains_int {l : List Int} (hl : l.length ≤ 1048576) {N : Nat} (hN : 2000000 ≤ N) : slices_ContainsFunc_int_int_2 N l = some (!l.all intW) := by
 unfold slices_ContainsFunc_int_int_2 slices_IndexFunc_int_int_2
 have key : ∀ {N i : Nat}, i ≤ l.length → l.length - i < N → ((l.drop i).all intW = true ∧ slices_IndexFunc_int_int_2_L1 l N i = some (.inr ())) ∨ ((l.drop i).all intW = false ∧ ∃ k : Nat, slices_IndexFunc_int_int_2_L1 l N i = some (.inl (k : Int))) := by
  intro N i hi hN
  refine loop_ind l.length (fun N i => ((l.drop i).all intW = true ∧ slices_IndexFunc_int_int_2_L1 l N i = some (.inr ())) ∨ ((l.drop i).all intW = false ∧ ∃ k : Nat, slices_IndexFunc_int_int_2_L1 l N i = some (.inl (k : Int)))) ?_ ?_ hi hN
  ·intro n; exact .inl ⟨by simp, by rw [slices_IndexFunc_int_int_2_L1, if_neg (by simp [len_def])]⟩
  ·intro n i hi ih
   obtain ⟨x, hx, _⟩ := at_lt hi
   rw [slices_IndexFunc_int_int_2_L1, if_pos (by simp [len_def]; omega), get_lt hx, drop_cons hx, List.all_cons]
   unfold impl_stateValid_1
   simp only [Option.bind_some, isInt_eq]
   rw [w_id (by omega) (by omega), show ((i : Int) + 1) = ((i + 1 : Nat) : Int) by omega]
   cases intW x with
   | true => simpa using ih
   | false => exact .inr ⟨rfl, i, by simp⟩
 rcases key (Nat.zero_le _) (by omega : l.length - 0 < N) with ⟨a, b⟩ | ⟨a, k, b⟩
 ·have b' : slices_IndexFunc_int_int_2_L1 l N 0 = some (.inr ()) := b
  rw [b']; simp only [List.drop_zero] at a; rw [a]; simp [Sh.cont]
 ·have b' : slices_IndexFunc_int_int_2_L1 l N 0 = some (.inl (k : Int)) := b
  rw [b']; simp only [List.drop_zero] at a; rw [a]; simp [Sh.cont]
theorem allInRange_eq {l : List Int} (hl : l.length ≤ 1048576) {N : Nat} (hN : 2000000 ≤ N) : spec_allInRange N l = some (l.all intW) := by
 unfold spec_allInRange
 rw [all_loop (l := l) (spec_allInRange_L1 l) (fun _ x => intW x) (fun n => by rw [spec_allInRange_L1, if_neg (by simp [len_def])]) (fun n i x hx => ?_) (by omega), cont_all, allAt_all]
 ·cases l.all intW <;> rfl
 ·have hi := (List.getElem?_eq_some_iff.1 hx).1
  rw [spec_allInRange_L1, if_pos (by simp [len_def]; omega), get_lt hx, w_id (by omega) (by omega), show ((i : Int) + 1) = ((i + 1 : Nat) : Int) by omega]
  simp only [Option.bind_some, inRange_eq]
  show (if (!intW x) = true then _ else _) = _
  cases intW x <;> simp
end RC

