import Derived.Test.YtgcghdgbahfcjaaGreatOCDefs
import Derived.Test.YtgcghdgbahfcjaaGreatIVG
import Derived.Test.YtgcghdgbahfcjaaGreatIWD

namespace RC
open Go
theorem gates {A B C : Option Bool} {T : Bool} (h : (Option.bind A fun t => if t = true then some false else Option.bind B fun t => if t = true then some false else Option.bind C fun t => if t = true then some false else some T) = some true) : T = true := by
 cases A with
 | none => cases h
 | some a =>
  cases a with
  | true => cases h
  | false =>
   cases B with
   | none => cases h
   | some b =>
    cases b with
    | true => cases h
    | false =>
     cases C with
     | none => cases h
     | some c =>
      cases c with
      | true => cases h
      | false => simpa using h
theorem validState_facts {im : RImage} (S : ISmall im) {s : RState} (Q : SOK s) {N : Nat} (hN : 2000000 ≤ N) (h : spec_validState N im s = some true) :
  viB N im = true ∧ ∀ i, i < s.frames.length → okF im s i = true := by
 unfold spec_validState at h
 rw [spec_tail S Q hN, tails, spec_validImage_eq S hN] at h
 have hT := gates h
 simp only [Bool.and_eq_true] at hT
 refine ⟨?_, fun i hi => allFr_iff.1 hT.1 i hi⟩
 cases hv : viB N im with
 | true => rfl
 | false => rw [hv] at h; simp at h
theorem validState_two {im : RImage} (S : ISmall im) {s : RState} (Q : SOK s) {N : Nat} (hN : 2000000 ≤ N) : ∃ b, spec_validState N im s = some b ∧ impl_ValidState N im s = some b := by
 obtain ⟨b, h1, h2⟩ := ValidState_both S Q hN
 unfold spec_ValidState at h1
 cases h : spec_validState N im s with
 | none => rw [h] at h1; cases h1
 | some c => rw [h] at h1; simp only [Option.bind_some, Option.some.injEq] at h1; subst h1; exact ⟨c, rfl, h2⟩
def posB (n : Nat) (F : Nat → Int) : List Bool := rowOf n fun j => decide (0 < F j)
theorem ownB_L2 {f : RFrame} {h : List Cell} (hh : h.length ≤ 1048576) (hz : fz f ≤ 1048576) (hin : RFrameIn f) (hlen : f.own.length = f.regs.length) (hr : allR f.regs.length (regI f) = true) (hv : allR f.regs.length (lvB h f) = true) {A : Nat} (hA : A ≤ 1048577000000)
  {N : Nat} (hN : 2000000 ≤ N) {F : Nat → Int} (hJ : JO A 0 F) :
  impl_OwnedCells_L2 f N 0 (posB h.length F) = some (posB h.length (ownF f F)) ∧ JO A f.own.length (ownF f F) := by
 have hzl : f.own.length ≤ 1048576 := by unfold RC.fz at hz; omega
 have stp : ∀ n i F, i < f.own.length → JO A i F → ((fun _ => true) i = true → JO A (i + 1) (osr f i F) ∧ impl_OwnedCells_L2 f (n + 1) (i : Int) (posB h.length F) = impl_OwnedCells_L2 f n ((i + 1 : Nat) : Int) (posB h.length (osr f i F))) ∧ ((fun _ : Nat => true) i = false → ∃ e, False ∧ impl_OwnedCells_L2 f (n + 1) (i : Int) (posB h.length F) = some e) := by
  intro n i F hi hJ
  have hri := allR_iff.1 hr i (by omega)
  have hvi := allR_iff.1 hv i (by omega)
  refine ⟨fun _ => ⟨osr_J hri hJ, ?_⟩, fun h => by cases h⟩
  obtain ⟨w1, w2⟩ := hin.regs.1 _ (at0_mem (l := f.regs) (r := i) (by omega))
  have e0 : (Sh.w ((i : Int) + 1)) = ((i + 1 : Nat) : Int) := by rw [w_id (by omega) (by omega)]; omega
  rw [impl_OwnedCells_L2, if_pos (by simp [len_def]; omega), at0_get hi, at0_get (by omega), e0]
  simp only [Option.bind_some]
  by_cases ho : 0 < at0 f.own i
  ·obtain ⟨h1, h2, _, _⟩ := own_step rfl hA hri hvi hJ (by omega) ho
   obtain ⟨q, hq⟩ := Int.eq_ofNat_of_zero_le (by omega : 0 ≤ at0 f.regs i - 1000)
   rw [w_id (by omega) (by omega), hq]
   simp only [ho, decide_true, if_true, Option.bind_some]
   unfold posB
   rw [get_lt (rowOf_get (by omega : q < h.length)), put_nat, rowOf_set]
   simp only [Option.bind_some]
   congr 1
   refine rowOf_congr fun j _ => ?_
   have hb := hJ j
   by_cases hj : j = q
   ·subst hj
    rw [if_pos rfl]
    unfold osr
    rw [if_pos ⟨ho, by omega⟩]
    exact (decide_eq_true (by omega)).symm
   ·rw [if_neg hj]
    unfold osr
    rw [if_neg (by rintro ⟨_, h⟩; omega)]
  ·have e : osr f i F = F := by funext j; unfold osr; rw [if_neg fun h => ho h.1]
   simp [ho, e]
 rcases cnt_loop (τ := Nat → Int) f.own.length (impl_OwnedCells_L2 f) (fun r => r) (posB h.length) (fun _ => true) (osr f) (JO A) (fun _ => False)
  (fun n r => by rw [impl_OwnedCells_L2, if_neg (by simp [len_def])]) stp (by omega : f.own.length < N) hJ with ⟨a, b, c⟩ | ⟨_, e, he, _⟩
 ·exact ⟨b, c⟩
 ·cases he
theorem ownB_L1 {im : RImage} {s : RState} (Q : SOK s) (hv : ∀ i, i < s.frames.length → fvB im (frA s i) = true ∧ lvA s (frA s i) = true) {N : Nat} (hN : 2000000 ≤ N) :
  impl_OwnedCells_L1 N s N 0 (posB s.heap.length Z) = some (posB s.heap.length (ownT s s.frames.length Z)) := by
 have hl := Q.hp.len
 have hfl := Q.fl
 have stp : ∀ n i F, i < s.frames.length → JO (999999 * hb s i) 0 F → ((fun _ => true) i = true → JO (999999 * hb s (i + 1)) 0 (ownF (frA s i) F) ∧ impl_OwnedCells_L1 N s (n + 1) (i : Int) (posB s.heap.length F) = impl_OwnedCells_L1 N s n ((i + 1 : Nat) : Int) (posB s.heap.length (ownF (frA s i) F))) ∧ ((fun _ : Nat => true) i = false → ∃ e, False ∧ impl_OwnedCells_L1 N s (n + 1) (i : Int) (posB s.heap.length F) = some e) := by
  intro n i F hi hJ
  refine ⟨fun _ => ?_, fun h => by cases h⟩
  obtain ⟨g1, g2, g3⟩ := frA_get hi
  obtain ⟨v1, v2⟩ := hv i hi
  obtain ⟨l1, l2, l3⟩ := lens_of v1
  have hb1 := Q.hb i
  obtain ⟨a, b⟩ := ownB_L2 hl (Q.fz g2) (Q.fin g2) l1 l3 v2 (A := 999999 * hb s i) (by omega) hN hJ
  refine ⟨?_, ?_⟩
  ·have := own_bound Q hi (A := 0) (F := ownF (frA s i) F) (by simpa using JO_shift b)
   simpa using this
  ·have e0 : (Sh.w ((i : Int) + 1)) = ((i + 1 : Nat) : Int) := by rw [w_id (by omega) (by omega)]; omega
   rw [impl_OwnedCells_L1, if_pos (by simp [len_def]; omega), g1]
   simp only [Option.bind_some]
   rw [a, e0]; rfl
 have hZ : JO (999999 * hb s 0) 0 Z := fun j => ⟨Int.le_refl _, by unfold Z; omega⟩
 rcases cnt_loop (τ := Nat → Int) s.frames.length (impl_OwnedCells_L1 N s) (fun r => r) (posB s.heap.length) (fun _ => true) (fun i => ownF (frA s i)) (fun i => JO (999999 * hb s i) 0) (fun _ => False)
  (fun n r => by rw [impl_OwnedCells_L1, if_neg (by simp [len_def])]) stp (by omega : s.frames.length < N) hZ with ⟨a, b, c⟩ | ⟨_, e, he, _⟩
 ·rw [b]; rfl
 ·cases he
theorem specOwned_L1 {F : Nat → Int} {n0 : Nat} (hl : n0 ≤ 1048576) {N i : Nat} (hi : i ≤ n0) (hN : n0 - i < N) : ∀ acc : List Nat, acc.length ≤ i → spec_OwnedCells_L1 (rowOf n0 F) N i (nats acc) = some (nats (acc ++ mk (fun j => decide (0 < F j)) n0 i)) := by
 refine loop_ind n0 (fun N i => ∀ acc : List Nat, acc.length ≤ i → spec_OwnedCells_L1 (rowOf n0 F) N i (nats acc) = some (nats (acc ++ mk (fun j => decide (0 < F j)) n0 i))) ?_ ?_ hi hN
 ·intro n acc _
  rw [spec_OwnedCells_L1, if_neg (by simp [len_def, rowOf_len]), mk_end, List.append_nil]
 ·intro n i hi ih acc ha
  rw [spec_OwnedCells_L1, if_pos (by simp [len_def, rowOf_len]; omega), get_lt (rowOf_get hi)]
  simp only [Option.bind_some]
  rw [w_id (by omega) (by omega), show ((i : Int) + 1) = ((i + 1 : Nat) : Int) by omega, mk_step hi]
  by_cases hm : 0 < F i
  ·simp only [hm, decide_true, if_true]
   rw [app_ok _ _ 8 (by rw [nats_len]; simp; omega) (by rw [nats_len]; simp; omega)]
   simp only [Option.bind_some]
   have := ih (acc ++ [i]) (by simp; omega)
   rw [nats_append, List.append_assoc] at this
   exact this
  ·simp only [hm, decide_false, Bool.false_eq_true, if_false, Option.bind_some, List.nil_append]; exact ih acc (by omega)
theorem OwnedCells_both {im : RImage} (S : ISmall im) {s : RState} (Q : SOK s) {N : Nat} (hN : 2000000 ≤ N) : ∃ out : List Int, spec_OwnedCells N im s = some out ∧ impl_OwnedCells N im s = some out ∧ out.length ≤ 1048576 := by
 have hl := Q.hp.len
 obtain ⟨b, h1, h2⟩ := validState_two S Q hN
 unfold spec_OwnedCells impl_OwnedCells
 rw [h1, h2]
 simp only [Option.bind_some]
 cases b with
 | false => exact ⟨[], by simp, by simp, by simp⟩
 | true =>
  obtain ⟨_, hf⟩ := validState_facts S Q hN h1
  have hv : ∀ i, i < s.frames.length → fvB im (frA s i) = true ∧ lvA s (frA s i) = true := fun i hi => by
   have := hf i hi
   unfold okF at this
   simp only [Bool.and_eq_true] at this
   exact ⟨this.1, this.2.2.1⟩
  obtain ⟨a, _⟩ := own_L1 Q hv hN
  have e1 := specOwned_L1 (F := ownT s s.frames.length Z) hl (Nat.zero_le s.heap.length) (by omega : s.heap.length - 0 < N) [] (by simp)
  rw [show ((0 : Nat) : Int) = 0 from rfl, show nats [] = [] from rfl] at e1
  refine ⟨nats (mk (fun j => decide (0 < ownT s s.frames.length Z j)) s.heap.length 0), ?_, ?_, by rw [nats_len]; have := mk_len (fun j => decide (0 < ownT s s.frames.length Z j)) s.heap.length 0; omega⟩
  ·simp only [Bool.not_true, Bool.false_eq_true, if_false]
   rw [a]
   simp only [Option.bind_some]
   rw [e1]; rfl
  ·simp only [Bool.not_true, Bool.false_eq_true, if_false]
   rw [len_def, mk_ok _ s.heap.length 1 (by omega) (by omega), rowOf_const]
   have e2 : (rowOf s.heap.length fun _ => false) = posB s.heap.length Z := rfl
   simp only [Option.bind_some]
   rw [e2, ownB_L1 Q hv hN]
   simp only [Option.bind_some]
   unfold posB
   rw [indicesOf_row hl hN]; rfl
def fzM (f : RFrame) : Nat := 3 + fz f
theorem markFrameS_eq {l : List RFrame} {k N : Nat} (hN : 2000000 ≤ N) (hl : l.length ≤ 1048576) (hok : ∀ d ∈ l, fz d ≤ 1048576) (hk : k + (l.map fzM).sum ≤ 20000000) : ∃ (k' : Nat) (l' : List RFrame), k' ≤ k + (l.map fzM).sum ∧ laws_markFrameS N l k = some ((k' : Int), l') := by
 obtain ⟨k', l', h1, h2⟩ := mark_of (L := laws_markFrameS_L1 N) (wt := fzM) (ok := fun d => fz d ≤ 1048576) (fun n k l => by rw [laws_markFrameS_L1, if_neg (by simp [len_def])]) (fun n k A x C hA hx hk => by
  unfold fz at hx
  unfold fzM fz at hk ⊢
  rw [laws_markFrameS_L1, if_pos (by simp [len_def]; omega), w_succ (n := k) (by omega), w_succ (n := k + 1) (by omega), w_succ (n := k + 1 + 1) (by omega), w_succ (n := A.length) (by omega)]
  simp only [get_mid, put_mid, Option.bind_some]
  rw [markIntS_eq (by omega) (by omega) hN]
  simp only [get_mid, put_mid, Option.bind_some]
  rw [markIntS_eq (by omega) (by omega) hN]
  simp only [get_mid, put_mid, Option.bind_some]
  rw [markIntS_eq (by omega) (by omega) hN]
  simp only [put_mid, Option.bind_some]
  exact ⟨_, _, by omega, rfl⟩) hN hl hok hk
 refine ⟨k', l', h1, ?_⟩
 unfold laws_markFrameS
 rw [h2]; rfl
theorem markState_eq {s : RState} (Q : SOK s) {k : Nat} (hk : k ≤ 10000000) {N : Nat} (hN : 2000000 ≤ N) {a b c d : Int} : ∃ (k' : Nat) (r : List Int × List Cell × List RFrame), laws_markState N s.out s.heap s.frames a b c d k = some ((k' : Int), r.1, r.2.1, r.2.2) := by
 have hz := Q.size
 have hol : s.out.length ≤ 1048576 := by unfold stz at hz; omega
 have hf : ∀ f ∈ s.frames, fz f ≤ 1048576 := fun f hf => Q.fz hf
 have b1 := sum_le (f := fzM) (g := fz) (a := 3) (b := 1) (l := s.frames) fun d _ => by unfold fzM; omega
 have hc := csz_le Q.hp
 obtain ⟨k2, l2, g1, g2⟩ := markFrameS_eq (l := s.frames) (k := k + s.out.length + csz s.heap) hN Q.fl hf (by unfold stz at hz; omega)
 refine ⟨k2, (ramp k s.out.length, markC (k + s.out.length) s.heap, l2), ?_⟩
 unfold laws_markState
 rw [markIntS_eq hol (by omega) hN]
 simp only [Option.bind_some]
 rw [markCellS_eq Q.hp (by omega) hN]
 simp only [Option.bind_some]
 rw [g2]; rfl
theorem markImage_le {x : RImage} (h : imz x ≤ 1048576) {N : Nat} (hN : 2000000 ≤ N) : ∃ (k : Nat) (r : List RDecl × List RProc), k ≤ 10000000 ∧ laws_markImage N x.decls x.procs 1 = some ((k : Int), r.1, r.2) := by
 have hd : ∀ d ∈ x.decls, dz d ≤ 1048576 := fun d hd => by have := mem_sum dz hd; unfold imz at h; omega
 have hp : ∀ p ∈ x.procs, pz p ≤ 1048576 := fun p hp => by have := mem_sum pz hp; unfold imz at h; omega
 have b1 := sum_le (f := dzM) (g := dz) (a := 2) (b := 1) (l := x.decls) fun d _ => by unfold dzM dz; omega
 have b2 := sum_le (f := pzM) (g := pz) (a := 2) (b := 4) (l := x.procs) fun p _ => by have := codeM p; unfold pzM pz; omega
 unfold imz at h
 obtain ⟨k1, l1, g1, g2⟩ := markDeclS_eq (l := x.decls) (k := 1) hN (by omega) hd (by omega)
 obtain ⟨k2, l2, g3, g4⟩ := markProcS_eq (l := x.procs) (k := k1) hN (by omega) hp (by omega)
 refine ⟨k2, (l1, l2), by omega, ?_⟩
 unfold laws_markImage
 rw [show ((1 : Nat) : Int) = 1 from rfl] at g2
 rw [g2]
 simp only [Option.bind_some]
 rw [g4]; rfl
theorem FnExactOwnedCells_plain {x : RImage} {s : RState} (H : RImageIn x) (G : RStateIn s) : laws_FnExactOwnedCells 2000000 x s = some true := by
 have hN : (2000000 : Nat) ≤ 2000000 := Nat.le_refl _
 unfold laws_FnExactOwnedCells
 rw [szImage_eq H (by omega) (by omega) hN]
 simp only [Option.bind_some]
 by_cases h : (1048576 : Int) - (imz x : Int) < 0
 ·rw [lft_neg h]; rfl
 ·rw [lft_pos h, if_neg (by simpa using h), szState_eq G (by omega) (by omega) hN]
  simp only [Option.bind_some]
  by_cases h2 : (1048576 : Int) - (imz x : Int) - (stz s : Int) < 0
  ·rw [lft_neg h2]; rfl
  ·rw [lft_pos h2, if_neg (by simpa using h2)]
   have hz : imz x ≤ 1048576 := by omega
   have hy : stz s ≤ 1048576 := by omega
   have S := small_of hz
   have Q : SOK s := ⟨stHp G hy, G, hy⟩
   obtain ⟨out, h3, h4, h5⟩ := OwnedCells_both S Q hN
   obtain ⟨k, r, hk0, hm⟩ := markImage_le hz hN
   obtain ⟨k2, r2, hm2⟩ := markState_eq Q hk0 hN (a := s.status) (b := s.value) (c := s.calls) (d := s.most)
   have hk : decide ((k2 : Int) < 0) = false := decide_eq_false (by omega)
   have e1 := markIntS_eq (l := out) (by omega) (k := 1) (by omega) hN
   have e2 := heldIntS_eq (m := out.length) (by omega) (k := 1) (by omega) hN
   rw [show ((1 : Nat) : Int) = 1 from rfl] at e1 e2
   have hk2 : decide (((1 + out.length : Nat) : Int) < 0) = false := decide_eq_false (by omega)
   rw [toImage_eq hz hN, toState_eq G hy hN]
   simp only [Option.bind_some]
   rw [h3, h4]
   simp only [Option.bind_some]
   rw [eqIntS_eq (by omega) hN, eqImage_eq hz hN, eqState_eq G hy hN]
   simp only [Option.bind_some]
   rw [hm]
   simp only [Option.bind_some]
   rw [hm2]
   simp only [Option.bind_some, Bool.not_true, Bool.false_eq_true, if_false]
   rw [hk]
   simp only [Bool.false_eq_true, if_false, Option.bind_some]
   rw [e1]
   simp only [Option.bind_some]
   rw [e2]
   simp only [Option.bind_some]
   rw [hk2]
   simp
end RC

