import Derived.Test.YtpahalfiiahddaaXOD

namespace RC
open Go
theorem one_row_mk {F c : Nat} (hc : c < F) : [(c : Int)] = nats (mk (with1 non c) F 0) := by
 have h := mk_ins (m := non) (n := F) hc c 0 (by omega) (Nat.zero_le _)
 have e : nats (mk non F 0) = [] := by simp [mk, nats, non]
 rw [e] at h
 exact h
theorem with1_non {c k : Nat} (h : with1 non c k = true) : k = c := by simpa [with1, non] using h
theorem specReached_eq {p : RProgram} {F c : Nat} (P : PO p F) (hc : c < F) {N : Nat} (hN : 2000000 ≤ N) : ∃ m, spec_reachedFrom N p (c : Int) = some (nats (mk m F 0)) ∧ ∀ k, k < F → (m k = true ↔ Re p F c k) := by
 have hF := P.le
 have h1 : with1 non c c = true := by simp [with1]
 have hp : 0 + 1 ≤ pop (with1 non c) F := by
  have := pop_with1 (m := non) (j := c) rfl hc
  omega
 obtain ⟨m, a1, a2, a3, a4⟩ := reach_L1 (c := c) P hN (Nat.zero_le F) (by omega : F - 0 < N) (with1 non c) (fun k _ hk => by rw [with1_non hk]; exact .refl) h1 (.inl hp)
 refine ⟨m, ?_, fun k hk => ⟨a2 k hk, fun h => (Re_of P a3 a4 hc h).2⟩⟩
 unfold spec_reachedFrom
 rw [one_row_mk hc]
 rw [show ((0 : Nat) : Int) = 0 from rfl] at a1
 rw [a1]; rfl
theorem implReached_eq {p : RProgram} {F c : Nat} (P : PO p F) (hc : c < F) {N : Nat} (hN : 2000000 ≤ N) (hv : impl_ValidProgram N p = some true) : ∃ m, impl_ReachedFrom N p (c : Int) = some (nats (mk m F 0)) ∧ ∀ k, k < F → (m k = true ↔ Re p F c k) := by
 have hF := P.le
 have h1 : with1 non c c = true := by simp [with1]
 have hpc := pop_with1 (m := non) (j := c) rfl hc
 have hple := pop_le (with1 non c) F
 obtain ⟨m, a1, a2, a3, a4⟩ := work_L1 (c := c) P hN N (with1 non c) [(c : Int)] (by simp; omega) (fun x hx => by simp at hx; omega) (fun x hx => by simp at hx; subst hx; simpa using h1) (fun k _ hk => by rw [with1_non hk]; exact .refl) (by simp) (fun k _ hk => .inl (by rw [with1_non hk]; simp)) (by simp; omega)
 refine ⟨m, ?_, fun k hk => ⟨a3 k hk, fun h => (Re_of P (a2 c h1) a4 hc h).2⟩⟩
 unfold impl_ReachedFrom
 rw [hv]
 have b1 : decide ((c : Int) < 0) = false := decide_eq_false (by omega)
 have b2 : decide (((F : Nat) : Int) ≤ (c : Int)) = false := decide_eq_false (by omega)
 simp only [Option.bind_some, Bool.not_true, Bool.false_eq_true, if_false, b1, len_def, P.len, b2]
 rw [mk_ok _ F 1 (by omega) (by omega), row_non]
 simp only [Option.bind_some]
 rw [get_lt (rowOf_get hc), row_put]
 simp only [Option.bind_some]
 rw [a1]
 simp only [Option.bind_some]
 rw [indicesOf_row (by omega) hN]; rfl
theorem Index_L1 {l : List Int} {x : Int} (hl : l.length ≤ 1000) {N i : Nat} (hi : i ≤ l.length) (hN : l.length - i < N) : (x ∈ l.drop i → ∃ j : Nat, slices_Index_int_int_L1 l x N i = some (.inl (j : Int))) ∧ (x ∉ l.drop i → slices_Index_int_int_L1 l x N i = some (.inr ())) := by
 refine loop_ind l.length (fun N i => (x ∈ l.drop i → ∃ j : Nat, slices_Index_int_int_L1 l x N i = some (.inl (j : Int))) ∧ (x ∉ l.drop i → slices_Index_int_int_L1 l x N i = some (.inr ()))) ?_ ?_ hi hN
 ·intro n
  rw [List.drop_length]
  exact ⟨fun h => (by cases h), fun _ => by rw [slices_Index_int_int_L1, if_neg (by simp [len_def])]⟩
 ·intro n i hi ih
  obtain ⟨y, hy, _⟩ := at_lt hi
  rw [drop_cons hy, slices_Index_int_int_L1, if_pos (by simp [len_def]; omega), get_lt hy]
  simp only [Option.bind_some, List.mem_cons, not_or]
  rw [w_id (n := (i : Int) + 1) (by omega) (by omega), show ((i : Int) + 1) = ((i + 1 : Nat) : Int) by omega]
  by_cases e : x = y
  ·rw [if_pos (by simpa using e)]
   exact ⟨fun _ => ⟨i, rfl⟩, fun h => absurd e h.1⟩
  ·rw [if_neg (by simpa using e)]
   exact ⟨fun h => ih.1 (h.resolve_left e), fun h => ih.2 h.2⟩
theorem Contains_eq {l : List Int} {x : Int} (hl : l.length ≤ 1000) {N : Nat} (hN : 2000000 ≤ N) : slices_Contains_int_int N l x = some (decide (x ∈ l)) := by
 have h := Index_L1 (x := x) hl (Nat.zero_le _) (by omega : l.length - 0 < N)
 rw [List.drop_zero, show ((0 : Nat) : Int) = 0 from rfl] at h
 unfold slices_Contains_int_int slices_Index_int_int
 by_cases hx : x ∈ l
 ·obtain ⟨j, hj⟩ := h.1 hx
  rw [hj]
  have : (0 : Int) ≤ (j : Int) := by omega
  simp [Sh.cont, hx]
 ·rw [h.2 hx]
  simp [Sh.cont, hx]
theorem mem_mk {m : Nat → Bool} {F k : Nat} (hk : k < F) : ((k : Int) ∈ nats (mk m F 0)) ↔ m k = true := by
 constructor
 ·intro h
  obtain ⟨j, hj, e⟩ := List.mem_map.1 h
  have : j = k := by omega
  subst this
  exact (mk_mem.1 hj).2
 ·intro h; exact List.mem_map.2 ⟨k, mk_mem.2 ⟨hk, h⟩, rfl⟩
open Classical in
theorem MayInline_of {p : RProgram} {F : Nat} (P : PO p F) {f : Int} {N : Nat} (hN : 2000000 ≤ N) (hs : spec_validProgram N p = some true) (hv : impl_ValidProgram N p = some true) : ∃ b, spec_MayInline N p f = some b ∧ impl_MayInline N p f = some b := by
 have hF := P.le
 unfold spec_MayInline impl_MayInline spec_mayInline
 rw [hs, hv]
 simp only [Option.bind_some, if_true, Bool.not_true, Bool.false_eq_true, if_false, len_def, P.len]
 rw [inRange_eq, w_id (n := (F : Int) - 1) (by omega) (by omega)]
 simp only [Option.bind_some]
 by_cases h1 : f < 1
 ·have : ¬ (1 ≤ f) := by omega
  exact ⟨false, by simp [this], by simp [h1]⟩
 ·by_cases h2 : (F : Int) ≤ f
  ·have : ¬ (f ≤ (F : Int) - 1) := by omega
   exact ⟨false, by simp [this], by simp [h2]⟩
  ·obtain ⟨k, rfl⟩ := Int.eq_ofNat_of_zero_le (by omega : 0 ≤ f)
   have hk : k < F := by omega
   obtain ⟨g, hg, _⟩ := at_lt (l := p.funcs) (i := k) (by rw [P.len]; omega)
   have c1 : (1 : Int) ≤ (k : Int) := by omega
   have c2 : (k : Int) ≤ (F : Int) - 1 := by omega
   have hl := cl_len (p := p) (F := F) (k := k)
   have L1 := all_loop (l := cl p F k) (spec_mayInline_L1 N p (k : Int) (cl p F k)) (fun _ c => decide (¬ Re p F c.toNat k)) (fun n => by rw [spec_mayInline_L1, if_neg (by simp [len_def])]) (fun n i c hc => by
    have hil := (List.getElem?_eq_some_iff.1 hc).1
    have hcF := cl_in P c (List.mem_of_getElem? hc)
    obtain ⟨j, rfl⟩ := Int.eq_ofNat_of_zero_le hcF.1
    obtain ⟨m, a1, a2⟩ := specReached_eq P (c := j) (by omega) hN
    rw [spec_mayInline_L1, if_pos (by simp [len_def]; omega), get_lt hc]
    simp only [Option.bind_some]
    rw [a1]
    simp only [Option.bind_some]
    rw [isIn_mk (by omega) hk hN, w_id (n := (i : Int) + 1) (by omega) (by omega), show ((i : Int) + 1) = ((i + 1 : Nat) : Int) by omega]
    simp only [Option.bind_some, Int.toNat_natCast]
    have := a2 k hk
    by_cases hr : Re p F j k
    ·simp [this.2 hr, hr]
    ·have : m k = false := by
      cases hm : m k with
      | false => rfl
      | true => exact absurd (this.1 hm) hr
     simp [this, hr]) (by omega : (cl p F k).length < N)
   have L2 := all_loop (l := cl p F k) (impl_MayInline_L1 N p (k : Int) (cl p F k)) (fun _ c => decide (¬ Re p F c.toNat k)) (fun n => by rw [impl_MayInline_L1, if_neg (by simp [len_def])]) (fun n i c hc => by
    have hil := (List.getElem?_eq_some_iff.1 hc).1
    have hcF := cl_in P c (List.mem_of_getElem? hc)
    obtain ⟨j, rfl⟩ := Int.eq_ofNat_of_zero_le hcF.1
    obtain ⟨m, a1, a2⟩ := implReached_eq P (c := j) (by omega) hN hv
    rw [impl_MayInline_L1, if_pos (by simp [len_def]; omega), get_lt hc]
    simp only [Option.bind_some]
    rw [a1]
    simp only [Option.bind_some]
    rw [Contains_eq (by rw [nats_len]; have := mk_len m F 0; omega) hN, w_id (n := (i : Int) + 1) (by omega) (by omega), show ((i : Int) + 1) = ((i + 1 : Nat) : Int) by omega]
    simp only [Option.bind_some, Int.toNat_natCast, mem_mk hk]
    have := a2 k hk
    by_cases hr : Re p F j k
    ·simp [this.2 hr, hr]
    ·have : m k = false := by
      cases hm : m k with
      | false => rfl
      | true => exact absurd (this.1 hm) hr
     simp [this, hr]) (by omega : (cl p F k).length < N)
   have hco : impl_CalleesOf N p (k : Int) = some (cl p F k) := by
    unfold impl_CalleesOf
    rw [hv]
    have b1 : decide ((k : Int) < 0) = false := decide_eq_false (by omega)
    have b2 : decide ((F : Int) ≤ (k : Int)) = false := decide_eq_false (by omega)
    simp only [Option.bind_some, Bool.not_true, Bool.false_eq_true, if_false, b1, len_def, P.len, b2]
    rw [calleesOf_eq P hg hN]
    simp only [Option.bind_some]
    rw [indices_cl P hN]; rfl
   refine ⟨allAt (fun _ c => decide (¬ Re p F c.toNat k)) 0 (cl p F k), ?_, ?_⟩
   ·simp only [c1, c2, decide_true, Bool.and_true, Bool.not_true, Bool.false_eq_true, if_false]
    rw [get_lt hg]
    simp only [Option.bind_some]
    rw [calleesIn_eq P hg hN]
    simp only [Option.bind_some]
    rw [L1, cont_all]
    cases allAt (fun (_ : Nat) (c : Int) => decide (¬ Re p F c.toNat k)) 0 (cl p F k) <;> rfl
   ·simp only [h1, h2, decide_false, Bool.false_eq_true, if_false, Option.bind_some]
    rw [hco]
    simp only [Option.bind_some]
    rw [L2, cont_all]
    cases allAt (fun (_ : Nat) (c : Int) => decide (¬ Re p F c.toNat k)) 0 (cl p F k) <;> rfl
end RC

