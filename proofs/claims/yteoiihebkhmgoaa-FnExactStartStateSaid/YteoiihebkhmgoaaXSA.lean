import Derived.Test.YteoiihebkhmgoaaGHADefsToSTDefs
import Derived.Test.YteoiihebkhmgoaaIXA

namespace RC
open Go
def zs (n : Nat) : List Int := List.replicate n 0
def fr0 (n : Nat) : RFrame := RFrame.mk 0 0 0 (zs n) (zs n) (zs n)
def st0 (m : Int) (n : Nat) : RState := RState.mk 3 0 0 m [] [] [fr0 n]
def stN : RState := RState.mk 0 0 0 0 [] [] []
theorem cpy_nil (l : List Int) : cpy l [] = l := by unfold cpy; simp
theorem zs_len (n : Nat) : (zs n).length = n := by simp [zs]
theorem mkz {n : Nat} (h : n ≤ 2000) : Sh.mk (0 : Int) (n : Int) 8 = some (zs n) := mk_ok 0 n 8 (by omega) (by omega)
theorem start_parts {im : RImage} (S : ISmall im) {N : Nat} (hN : 2000000 ≤ N) (h : viB N im = true) : ∃ (p : RProc) (n : Nat), Sh.get im.procs 0 = some p ∧ p.regs = (n : Int) ∧ n ≤ 2000 := by
 have h' := h
 unfold viB at h'
 simp only [Bool.and_eq_true] at h'
 have hs := h'.2.1.1
 unfold sigsB at hs
 simp only [Bool.and_eq_true, decide_eq_true_eq, List.length_map] at hs
 obtain ⟨p, hp⟩ : ∃ p, im.procs[0]? = some p := ⟨im.procs[0]'(by omega), List.getElem?_eq_getElem (by omega)⟩
 have P := viB_proc S hN h (List.mem_of_getElem? hp)
 have r1 := P.r1
 have r2 := P.r2
 exact ⟨p, p.regs.toNat, get_lt (i := 0) hp, by omega, by omega⟩
theorem StartState_both {im : RImage} (S : ISmall im) {most : Int} {N : Nat} (hN : 2000000 ≤ N) :
  (spec_StartState N im most = some (stN, false) ∧ impl_StartState N im most = some (stN, false)) ∨
   ∃ n, n ≤ 2000 ∧ spec_StartState N im most = some (st0 most n, true) ∧ impl_StartState N im most = some (st0 most n, true) := by
 unfold spec_StartState impl_StartState
 rw [spec_validImage_eq S hN, impl_ValidImage_eq S hN, inRange_eq]
 simp only [Option.bind_some]
 cases hv : viB N im with
 | false => left; exact ⟨rfl, rfl⟩
 | true =>
  simp only [Bool.not_true, Bool.false_eq_true, if_false]
  by_cases h0 : most < 0
  ·left
   have h1 : ¬ (0 ≤ most) := by omega
   simp [h0, h1, stN]
  ·by_cases h2 : 40 < most
   ·left
    have h1 : ¬ (most ≤ 40) := by omega
    simp [h2, h1, stN]
   ·right
    obtain ⟨p, n, hp, hr, hn⟩ := start_parts S hN hv
    have e1 : spec_startState im most = some (st0 most n) := by
     unfold spec_startState spec_frameOf spec_zeros
     rw [hp]
     simp only [Option.bind_some]
     rw [hr, mkz hn]
     simp only [Option.bind_some, cpy_nil]
     rfl
    have e2 : impl_startState im most = some (st0 most n) := by
     unfold impl_startState impl_newFrame
     rw [hp]
     simp only [Option.bind_some]
     rw [hr, mkz hn]
     rfl
    have a1 : 0 ≤ most := by omega
    have a2 : most ≤ 40 := by omega
    refine ⟨n, hn, ?_, ?_⟩
    ·rw [e1]; simp [a1, a2]
    ·rw [e2]; simp [h0, h2]
theorem st0_in {m : Int} (hm : I64 m) {n : Nat} (hn : n ≤ 2000) : RStateIn (st0 m n) := by
 have hz : ListIn I64 (zs n) := ⟨fun x hx => by rw [(List.mem_replicate.1 hx).2]; exact ⟨by omega, by omega⟩, by rw [zs_len]; omega⟩
 have i0 : I64 0 := ⟨by omega, by omega⟩
 refine ⟨⟨by show (_ : Int) ≤ 3; omega, by show (3 : Int) ≤ _; omega⟩, i0, i0, hm, ⟨fun _ h => (by cases h), by simp [st0]⟩, ⟨fun _ h => (by cases h), by simp [st0]⟩, ⟨fun f hf => ?_, by simp [st0]⟩⟩
 have : f = fr0 n := by simpa [st0] using hf
 subst this
 exact ⟨i0, i0, i0, hz, hz, hz⟩
theorem stN_in : RStateIn stN := by
 have i0 : I64 0 := ⟨by omega, by omega⟩
 exact ⟨i0, i0, i0, i0, ⟨fun _ h => (by cases h), by simp [stN]⟩, ⟨fun _ h => (by cases h), by simp [stN]⟩, ⟨fun _ h => (by cases h), by simp [stN]⟩⟩
theorem st0_size {m : Int} {n : Nat} (hn : n ≤ 2000) : stz (st0 m n) ≤ 1048576 := by
 simp only [stz, st0, fr0, fz, zs_len, List.length_nil, List.length_cons, List.map_cons, List.map_nil, List.sum_cons, List.sum_nil]
 have : hsize [] = 0 := by simp [hsize, fsum]
 omega
theorem stN_size : stz stN ≤ 1048576 := by
 simp [stz, stN, hsize, fsum]
theorem markI0 {N : Nat} (hN : 2000000 ≤ N) : laws_markIntS N [] 1 = some (1, []) := markIntS_eq (l := []) (by simp) (k := 1) (by omega) hN
theorem heldI0 {N : Nat} (hN : 2000000 ≤ N) : laws_heldIntS N [] 1 = some 1 := heldIntS_eq (m := 0) (by omega) (k := 1) (by omega) hN
theorem markC0 {N : Nat} (hN : 2000000 ≤ N) : laws_markCellS N [] 1 = some (1, []) := by
 obtain ⟨n, rfl⟩ : ∃ m, N = m + 1 := ⟨N - 1, by omega⟩
 unfold laws_markCellS
 rw [laws_markCellS_L1]; rfl
theorem heldC0 {N : Nat} (hN : 2000000 ≤ N) : laws_heldCellS N [] 1 = some 1 := by
 obtain ⟨n, rfl⟩ : ∃ m, N = m + 1 := ⟨N - 1, by omega⟩
 unfold laws_heldCellS
 rw [laws_heldCellS_L1]; rfl
def fr1 (n : Nat) : RFrame := RFrame.mk 1 2 3 (ramp 4 n) (ramp (4 + n) n) (ramp (4 + n + n) n)
theorem markF0 {N n : Nat} (hN : 2000000 ≤ N) (hn : n ≤ 2000) : laws_markFrameS N [fr0 n] 1 = some (((4 + n + n + n : Nat) : Int), [fr1 n]) := by
 obtain ⟨M, rfl⟩ : ∃ m, N = m + 2 := ⟨N - 2, by omega⟩
 unfold laws_markFrameS
 have g : ∀ x : RFrame, Sh.get [x] 0 = some x := fun _ => rfl
 have u : ∀ x y : RFrame, Sh.put [x] 0 y = [y] := fun _ _ => rfl
 have w1 : Sh.w (1 + 1) = 2 := w_id (by omega) (by omega)
 have w2 : Sh.w (2 + 1) = 3 := w_id (by omega) (by omega)
 have w3 : Sh.w (3 + 1) = ((4 : Nat) : Int) := w_id (by omega) (by omega)
 have w0 : Sh.w (0 + 1) = 1 := w_id (by omega) (by omega)
 have m1 := markIntS_eq (l := zs n) (by rw [zs_len]; omega) (k := 4) (by omega) hN
 have m2 := markIntS_eq (l := zs n) (by rw [zs_len]; omega) (k := 4 + n) (by omega) hN
 have m3 := markIntS_eq (l := zs n) (by rw [zs_len]; omega) (k := 4 + n + n) (by omega) hN
 rw [zs_len] at m1 m2 m3
 rw [laws_markFrameS_L1, if_pos (by simp [len_def])]
 simp only [g, u, w1, w2, w3, w0, fr0, Option.bind_some, m1, m2, m3]
 rw [laws_markFrameS_L1, if_neg (by simp [len_def])]
 rfl
theorem heldF0 {N n : Nat} (hN : 2000000 ≤ N) (hn : n ≤ 2000) : laws_heldFrameS N [fr1 n] 1 = some ((4 + n + n + n : Nat) : Int) := by
 obtain ⟨M, rfl⟩ : ∃ m, N = m + 2 := ⟨N - 2, by omega⟩
 unfold laws_heldFrameS
 have g : ∀ x : RFrame, Sh.get [x] 0 = some x := fun _ => rfl
 have w1 : Sh.w (1 + 1) = 2 := w_id (by omega) (by omega)
 have w2 : Sh.w (2 + 1) = 3 := w_id (by omega) (by omega)
 have w3 : Sh.w (3 + 1) = ((4 : Nat) : Int) := w_id (by omega) (by omega)
 have w0 : Sh.w (0 + 1) = 1 := w_id (by omega) (by omega)
 have m1 := heldIntS_eq (m := n) (by omega) (k := 4) (by omega) hN
 have m2 := heldIntS_eq (m := n) (by omega) (k := 4 + n) (by omega) hN
 have m3 := heldIntS_eq (m := n) (by omega) (k := 4 + n + n) (by omega) hN
 have n1 : decide (((4 + n : Nat) : Int) < 0) = false := decide_eq_false (by omega)
 have n2 : decide (((4 + n + n : Nat) : Int) < 0) = false := decide_eq_false (by omega)
 have n3 : decide (((4 + n + n + n : Nat) : Int) < 0) = false := decide_eq_false (by omega)
 rw [laws_heldFrameS_L1, if_pos (by simp [len_def])]
 simp only [g, w1, w2, w3, w0, fr1, Option.bind_some, decide_true, Bool.not_true, Bool.false_eq_true, if_false, m1, n1, m2, n2, m3, n3]
 rw [laws_heldFrameS_L1, if_neg (by simp [len_def])]
 rfl
theorem mark_held {N : Nat} (hN : 2000000 ≤ N) {s : RState} (hs : s = stN ∨ ∃ m n, n ≤ 2000 ∧ s = st0 m n) {a b c d : Int} :
  ∃ (k : Nat) (r : List Int × List Cell × List RFrame), laws_markState N s.out s.heap s.frames a b c d 1 = some ((k : Int), r.1, r.2.1, r.2.2) ∧ laws_heldState N (RState.mk a b c d r.1 r.2.1 r.2.2) 1 = some (k : Int) := by
 have h1 : decide ((1 : Int) < 0) = false := rfl
 rcases hs with rfl | ⟨m, n, hn, rfl⟩
 ·have mf : laws_markFrameS N [] 1 = some (1, []) := by
   obtain ⟨n, rfl⟩ : ∃ m, N = m + 1 := ⟨N - 1, by omega⟩
   unfold laws_markFrameS
   rw [laws_markFrameS_L1]; rfl
  have hf : laws_heldFrameS N [] 1 = some 1 := by
   obtain ⟨n, rfl⟩ : ∃ m, N = m + 1 := ⟨N - 1, by omega⟩
   unfold laws_heldFrameS
   rw [laws_heldFrameS_L1]; rfl
  refine ⟨1, ([], [], []), ?_, ?_⟩
  ·unfold laws_markState
   simp only [stN, markI0 hN, markC0 hN, mf, Option.bind_some]; rfl
  ·unfold laws_heldState
   simp only [heldI0 hN, heldC0 hN, hf, Option.bind_some, h1, Bool.false_eq_true, if_false]; rfl
 ·have n3 : decide (((4 + n + n + n : Nat) : Int) < 0) = false := decide_eq_false (by omega)
  refine ⟨4 + n + n + n, ([], [], [fr1 n]), ?_, ?_⟩
  ·unfold laws_markState
   simp only [st0, markI0 hN, markC0 hN, markF0 hN hn, Option.bind_some]
  ·unfold laws_heldState
   simp only [heldI0 hN, heldC0 hN, heldF0 hN hn, Option.bind_some, h1, n3, Bool.false_eq_true, if_false]
theorem FnExactStartState_plain {x : RImage} {m : Int} (H : RImageIn x) (G : I64 m) : laws_FnExactStartState 2000000 x m = some true := by
 have hN : (2000000 : Nat) ≤ 2000000 := Nat.le_refl _
 unfold laws_FnExactStartState
 rw [szImage_eq H (by omega) (by omega) hN]
 simp only [Option.bind_some]
 by_cases h : (1048576 : Int) - (imz x : Int) < 0
 ·rw [lft_neg h]; rfl
 ·rw [lft_pos h, if_neg (by simpa using h)]
  have hz : imz x ≤ 1048576 := by omega
  have S := small_of hz
  obtain ⟨s, b, h1, h2, hs, hi, hy⟩ : ∃ s b, spec_StartState 2000000 x m = some (s, b) ∧ impl_StartState 2000000 x m = some (s, b) ∧ (s = stN ∨ ∃ m n, n ≤ 2000 ∧ s = st0 m n) ∧ RStateIn s ∧ stz s ≤ 1048576 := by
   rcases StartState_both S (most := m) hN with ⟨a, c⟩ | ⟨n, hn, a, c⟩
   ·exact ⟨_, _, a, c, .inl rfl, stN_in, stN_size⟩
   ·exact ⟨_, _, a, c, .inr ⟨m, n, hn, rfl⟩, st0_in G hn, st0_size hn⟩
  obtain ⟨k, r, _, hm⟩ := markImage_le hz hN
  obtain ⟨k2, r2, hm2, hh2⟩ := mark_held hN hs (a := s.status) (b := s.value) (c := s.calls) (d := s.most)
  have hk : decide ((k : Int) < 0) = false := decide_eq_false (by omega)
  have hk2 : decide ((k2 : Int) < 0) = false := decide_eq_false (by omega)
  have hb : (b != b) = false := by cases b <;> rfl
  have he := eqState_eq hi hy hN
  rw [toImage_eq hz hN]
  simp only [Option.bind_some]
  rw [h1, h2]
  simp only [Option.bind_some, he, hb, Bool.not_true, Bool.false_eq_true, if_false, eqImage_eq hz hN]
  rw [hm]
  simp only [Option.bind_some, hk, Bool.false_eq_true, if_false]
  rw [hm2]
  simp only [Option.bind_some]
  rw [hh2]
  simp only [Option.bind_some, hk2, decide_true, Bool.not_true, Bool.false_eq_true, if_false]
end RC

