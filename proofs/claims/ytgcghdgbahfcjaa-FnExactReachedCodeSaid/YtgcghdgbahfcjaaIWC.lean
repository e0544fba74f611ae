import Derived.Test.YtgcghdgbahfcjaaIWB

namespace RC
open Go
def nx (i : RInstr) (t : Nat) : List Int :=
  if i.op = 22 then [i.num] else if i.op = 20 then [(t : Int) + 1, i.num] else if i.op = 21 then i.jumps else if i.op = 23 ∨ i.op = 24 then [] else [(t : Int) + 1]
def sx (i : RInstr) (t : Nat) : List Int :=
  if i.op = 22 then [i.num] else if i.op = 20 then ins [(t : Int) + 1] i.num else if i.op = 21 then i.jumps.foldl ins [] else if i.op = 23 ∨ i.op = 24 then [] else [(t : Int) + 1]
theorem foldl_ins_mem : ∀ (l acc : List Int) (y : Int), y ∈ l.foldl ins acc ↔ y ∈ acc ∨ y ∈ l
  | [], acc, y => by simp
  | a :: r, acc, y => by
    rw [List.foldl_cons, foldl_ins_mem r, ins_mem]
    simp only [List.mem_cons]
    constructor
    · rintro ((h | h) | h) <;> simp [h]
    · rintro (h | h | h) <;> simp [h]
theorem foldl_ins_len : ∀ (l acc : List Int), (l.foldl ins acc).length ≤ acc.length + l.length
  | [], acc => by simp
  | a :: r, acc => by
    rw [List.foldl_cons]
    have := foldl_ins_len r (ins acc a)
    have := ins_len acc a
    simp only [List.length_cons]; omega
theorem sx_nx (i : RInstr) (t : Nat) (x : Int) : x ∈ sx i t ↔ x ∈ nx i t := by
  unfold sx nx
  split
  · rfl
  split
  · rw [ins_mem]; simp [or_comm]
  split
  · rw [foldl_ins_mem]; simp
  rfl
theorem sx_len (i : RInstr) (t : Nat) : (sx i t).length ≤ i.jumps.length + 2 := by
  unfold sx
  split
  · simp
  split
  · have := ins_len [(t : Int) + 1] i.num; simp at this; omega
  split
  · have := foldl_ins_len i.jumps []; simp at this; omega
  split <;> simp
theorem nx_len (i : RInstr) (t : Nat) : (nx i t).length ≤ i.jumps.length + 2 := by
  unfold nx
  split
  · simp
  split
  · simp
  split
  · omega
  split <;> simp
theorem nx_in {L t : Nat} {i : RInstr} (h : leads L t i) : ∀ x ∈ nx i t, (t : Int) < x ∧ x < (L : Int) := by
  intro x hx
  obtain ⟨h1, h2, h3⟩ := h
  unfold nx at hx
  split at hx
  · rename_i e; simp only [List.mem_singleton] at hx; subst hx; exact h1 (.inl e)
  split at hx
  · rename_i e1 e
    have := h3 (by omega) (by omega)
    simp only [List.mem_cons, List.not_mem_nil, or_false] at hx
    rcases hx with rfl | rfl
    · omega
    · exact h1 (.inr e)
  split at hx
  · rename_i e; exact h2 e x hx
  split at hx
  · simp at hx
  · rename_i e1 e2 e3 e4
    have := h3 (by omega) (by omega)
    simp only [List.mem_singleton] at hx
    omega
theorem nexts_eq {i : RInstr} {t : Nat} (ht : t ≤ 2000) : impl_Instr_nexts i (t : Int) = some (nx i t) := by
  unfold impl_Instr_nexts nx
  rw [w_id (n := (t : Int) + 1) (by omega) (by omega)]
  by_cases h1 : i.op = 22
  · simp [h1]
  by_cases h2 : i.op = 20
  · simp [h2]
  by_cases h3 : i.op = 21
  · simp [h3]
  by_cases h4 : i.op = 23
  · simp [h4]
  by_cases h5 : i.op = 24
  · simp [h5]
  simp [h1, h2, h3, h4, h5]
theorem nextOf_L1_eq {c : RInstr} (hl : c.jumps.length ≤ 1048576) {N0 : Nat} (hN0 : 2000000 ≤ N0) {N i : Nat} (hi : i ≤ c.jumps.length) (hN : c.jumps.length - i < N) : ∀ acc : List Int, acc.length ≤ i → spec_nextOf_L1 N0 c N (i : Int) acc = some ((c.jumps.drop i).foldl ins acc) := by
  refine loop_ind c.jumps.length (fun N i => ∀ acc : List Int, acc.length ≤ i → spec_nextOf_L1 N0 c N (i : Int) acc = some ((c.jumps.drop i).foldl ins acc)) ?_ ?_ hi hN
  · intro n acc _
    rw [spec_nextOf_L1, if_neg (by simp [len_def])]; simp
  · intro n i hi ih acc ha
    obtain ⟨y, hy, _⟩ := at_lt hi
    rw [spec_nextOf_L1, if_pos (by simp [len_def]; omega), get_lt hy]
    simp only [Option.bind_some]
    rw [spec_insert_eq (by omega) hN0]
    simp only [Option.bind_some]
    have := ins_len acc y
    rw [w_id (by omega) (by omega), show ((i : Int) + 1) = ((i + 1 : Nat) : Int) by omega, ih _ (by omega), drop_cons hy, List.foldl_cons]
theorem nextOf_eq {code : List RInstr} {t : Nat} {i : RInstr} (hi : code[t]? = some i) (ht : t ≤ 2000) (hl : i.jumps.length ≤ 1048576) {N : Nat} (hN : 2000000 ≤ N) : spec_nextOf N code (t : Int) = some (sx i t) := by
  unfold spec_nextOf sx
  rw [get_lt hi]
  simp only [Option.bind_some]
  have e := nextOf_L1_eq hl hN (Nat.zero_le _) (by omega : i.jumps.length - 0 < N) [] (by simp)
  rw [show ((0 : Nat) : Int) = 0 from rfl, List.drop_zero] at e
  rw [e, w_id (n := (t : Int) + 1) (by omega) (by omega), spec_insert_eq (by simp) hN]
  by_cases h4 : i.op = 23
  · simp [h4]
  by_cases h5 : i.op = 24
  · simp [h5]
  by_cases h1 : i.op = 22
  · simp [h1]
  by_cases h2 : i.op = 20
  · simp [h2]
  by_cases h3 : i.op = 21
  · simp [h3]
  simp [h1, h2, h3, h4, h5]
theorem spec_L2 {L : Nat} (hL : L ≤ 2000) {q : List Int} (hq : q.length ≤ 1048600) (hin : ∀ x ∈ q, 0 ≤ x ∧ x < (L : Int)) {N0 : Nat} (hN0 : 2000000 ≤ N0) {N i : Nat} (hi : i ≤ q.length) (hN : q.length - i < N) :
    ∀ m : Nat → Bool, spec_ReachedCode_L2 N0 q N (i : Int) (nats (mk m L 0)) = some (nats (mk (withL m (q.drop i)) L 0)) := by
  refine loop_ind q.length (fun N i => ∀ m : Nat → Bool, spec_ReachedCode_L2 N0 q N (i : Int) (nats (mk m L 0)) = some (nats (mk (withL m (q.drop i)) L 0))) ?_ ?_ hi hN
  · intro n m
    rw [spec_ReachedCode_L2, if_neg (by simp [len_def])]; simp [withL_nil]
  · intro n i hi ih m
    obtain ⟨y, hy, hm⟩ := at_lt hi
    obtain ⟨h0, h1⟩ := hin y hm
    obtain ⟨j, rfl⟩ := Int.eq_ofNat_of_zero_le h0
    rw [spec_ReachedCode_L2, if_pos (by simp [len_def]; omega), get_lt hy]
    simp only [Option.bind_some]
    rw [mk_insert (by omega) (by omega) hN0]
    simp only [Option.bind_some]
    rw [w_id (by omega) (by omega), show ((i : Int) + 1) = ((i + 1 : Nat) : Int) by omega, ih, drop_cons hy, withL_cons]
theorem impl_L2 {L : Nat} (hL : L ≤ 2000) {q : List Int} (hq : q.length ≤ 1048600) (hin : ∀ x ∈ q, 0 ≤ x ∧ x < (L : Int)) {N i : Nat} (hi : i ≤ q.length) (hN : q.length - i < N) :
    ∀ m : Nat → Bool, impl_ReachedCode_L2 q N (i : Int) (rowOf L m) = some (rowOf L (withL m (q.drop i))) := by
  refine loop_ind q.length (fun N i => ∀ m : Nat → Bool, impl_ReachedCode_L2 q N (i : Int) (rowOf L m) = some (rowOf L (withL m (q.drop i)))) ?_ ?_ hi hN
  · intro n m
    rw [impl_ReachedCode_L2, if_neg (by simp [len_def])]; simp [withL_nil]
  · intro n i hi ih m
    obtain ⟨y, hy, hm⟩ := at_lt hi
    obtain ⟨h0, h1⟩ := hin y hm
    obtain ⟨j, rfl⟩ := Int.eq_ofNat_of_zero_le h0
    rw [impl_ReachedCode_L2, if_pos (by simp [len_def]; omega), get_lt hy]
    simp only [Option.bind_some]
    rw [get_lt (rowOf_get (by omega : j < L)), put_nat, rowOf_set]
    simp only [Option.bind_some]
    have e : (fun k => if k = j then true else m k) = with1 m j := by
      funext k; unfold with1; by_cases h : k = j <;> simp [h]
    rw [e, w_id (by omega) (by omega), show ((i : Int) + 1) = ((i + 1 : Nat) : Int) by omega, ih, drop_cons hy, withL_cons]
def run : Nat → List RInstr → (Nat → Bool) → Nat → Bool
  | _, [], m => m
  | t, i :: r, m => run (t + 1) r (if m t then withL m (nx i t) else m)
theorem spec_L1 {im : RImage} {f : Nat} {p : RProc} (hp : im.procs[f]? = some p) (V : PV p) (hj : ∀ i ∈ p.code, i.jumps.length ≤ 1048576) {N0 : Nat} (hN0 : 2000000 ≤ N0) {N t : Nat} (ht : t ≤ p.code.length) (hN : p.code.length - t < N) :
    ∀ m : Nat → Bool, spec_ReachedCode_L1 N0 im (f : Int) N (t : Int) (nats (mk m p.code.length 0)) = some (nats (mk (run t (p.code.drop t) m) p.code.length 0)) := by
  have hc := V.c2
  refine loop_ind p.code.length (fun N t => ∀ m : Nat → Bool, spec_ReachedCode_L1 N0 im (f : Int) N (t : Int) (nats (mk m p.code.length 0)) = some (nats (mk (run t (p.code.drop t) m) p.code.length 0))) ?_ ?_ ht hN
  · intro n m
    rw [spec_ReachedCode_L1, get_lt hp]
    simp only [Option.bind_some]
    rw [if_neg (by simp [len_def])]; simp [run]
  · intro n t ht ih m
    obtain ⟨y, hy, hm⟩ := at_lt ht
    have hin := nx_in (V.leads t y hy)
    rw [spec_ReachedCode_L1, get_lt hp]
    simp only [Option.bind_some]
    rw [if_pos (by simp [len_def]; omega), isIn_mk (by omega) ht hN0]
    simp only [Option.bind_some]
    rw [w_id (n := (t : Int) + 1) (by omega) (by omega), show ((t : Int) + 1) = ((t + 1 : Nat) : Int) by omega, drop_cons hy]
    simp only [run]
    cases hmt : m t with
    | false => simp only [Bool.false_eq_true, if_false, Option.bind_some]; exact ih m
    | true =>
      simp only [if_true]
      rw [nextOf_eq hy (by omega) (hj y hm) hN0]
      simp only [Option.bind_some]
      have hsl := sx_len y t
      have hjl := hj y hm
      have e := spec_L2 (L := p.code.length) hc (q := sx y t) (by omega) (fun x hx => by have := hin x ((sx_nx y t x).1 hx); omega) hN0 (Nat.zero_le _) (by omega : (sx y t).length - 0 < N0) m
      rw [show ((0 : Nat) : Int) = 0 from rfl, List.drop_zero] at e
      rw [e]
      simp only [Option.bind_some]
      rw [withL_congr (sx_nx y t)]
      exact ih _
theorem impl_L1 {p : RProc} (V : PV p) (hj : ∀ i ∈ p.code, i.jumps.length ≤ 1048576) {N0 : Nat} (hN0 : 2000000 ≤ N0) {N t : Nat} (ht : t ≤ p.code.length) (hN : p.code.length - t < N) :
    ∀ m : Nat → Bool, impl_ReachedCode_L1 N0 p N (t : Int) (rowOf p.code.length m) = some (rowOf p.code.length (run t (p.code.drop t) m)) := by
  have hc := V.c2
  refine loop_ind p.code.length (fun N t => ∀ m : Nat → Bool, impl_ReachedCode_L1 N0 p N (t : Int) (rowOf p.code.length m) = some (rowOf p.code.length (run t (p.code.drop t) m))) ?_ ?_ ht hN
  · intro n m
    rw [impl_ReachedCode_L1, if_neg (by simp [len_def])]; simp [run]
  · intro n t ht ih m
    obtain ⟨y, hy, hm⟩ := at_lt ht
    have hin := nx_in (V.leads t y hy)
    rw [impl_ReachedCode_L1, if_pos (by simp [len_def]; omega), get_lt hy, get_lt (rowOf_get ht)]
    simp only [Option.bind_some]
    rw [w_id (n := (t : Int) + 1) (by omega) (by omega), show ((t : Int) + 1) = ((t + 1 : Nat) : Int) by omega, drop_cons hy]
    simp only [run]
    cases hmt : m t with
    | false => simp only [Bool.false_eq_true, if_false, Option.bind_some]; exact ih m
    | true =>
      simp only [if_true]
      rw [nexts_eq (by omega)]
      simp only [Option.bind_some]
      have hnl := nx_len y t
      have hjl := hj y hm
      have e := impl_L2 (L := p.code.length) hc (q := nx y t) (by omega) (fun x hx => by have := hin x hx; omega) (Nat.zero_le _) (by omega : (nx y t).length - 0 < N0) m
      rw [show ((0 : Nat) : Int) = 0 from rfl, List.drop_zero] at e
      rw [e]
      simp only [Option.bind_some]
      exact ih _
theorem indicesOf_row {m : Nat → Bool} {n : Nat} (hn : n ≤ 1048576) {N : Nat} (hN : 2000000 ≤ N) : impl_indicesOf N (rowOf n m) = some (nats (mk m n 0)) := by
  unfold impl_indicesOf
  have := impl_indices_L1 (m := m) hn (Nat.zero_le n) (by omega : n - 0 < N) [] (by simp)
  rw [show ((0 : Nat) : Int) = 0 from rfl, show nats [] = [] from rfl] at this
  rw [this]; rfl
theorem mk_one {n : Nat} (hn : 1 ≤ n) : nats (mk (with1 (fun _ => false) 0) n 0) = [0] := by
  have h := mk_ins (m := fun _ => false) (n := n) (j := 0) (by omega) 0 0 rfl (Nat.le_refl _)
  have e : mk (fun _ => false) n 0 = [] := by simp [mk]
  rw [e] at h
  exact h.symm
theorem ReachedCode_both {im : RImage} (S : ISmall im) {f : Int} {N : Nat} (hN : 2000000 ≤ N) : ∃ out : List Int, spec_ReachedCode N im f = some out ∧ impl_ReachedCode N im f = some out ∧ out.length ≤ 2000 := by
  have hpl := S.pl
  unfold spec_ReachedCode impl_ReachedCode
  rw [spec_validImage_eq S hN, impl_ValidImage_eq S hN, inRange_eq, len_def, w_id (n := (im.procs.length : Int) - 1) (by omega) (by omega)]
  simp only [Option.bind_some]
  cases hv : viB N im with
  | false => exact ⟨[], by simp, by simp, by simp⟩
  | true =>
    by_cases h0 : 0 ≤ f
    · by_cases h1 : f < (im.procs.length : Int)
      · obtain ⟨k, rfl⟩ := Int.eq_ofNat_of_zero_le h0
        obtain ⟨p, hp, hm⟩ := at_lt (l := im.procs) (i := k) (by omega)
        have V := viB_proc S hN hv hm
        have hc1 := V.c1
        have hc2 := V.c2
        have hj : ∀ i ∈ p.code, i.jumps.length ≤ 1048576 := fun i hi => (S.ar p hm i hi).2
        have h1' : (k : Int) ≤ (im.procs.length : Int) - 1 := by omega
        have h1'' : ¬ (im.procs.length : Int) ≤ (k : Int) := by omega
        have h0' : ¬ (k : Int) < 0 := by omega
        have e1 := spec_L1 hp V hj hN (Nat.zero_le _) (by omega : p.code.length - 0 < N) (with1 (fun _ => false) 0)
        have e2 := impl_L1 V hj hN (Nat.zero_le _) (by omega : p.code.length - 0 < N) (with1 (fun _ => false) 0)
        rw [show ((0 : Nat) : Int) = 0 from rfl, List.drop_zero] at e1 e2
        rw [mk_one hc1] at e1
        have e3 : Sh.put (rowOf p.code.length fun _ => false) 0 true = rowOf p.code.length (with1 (fun _ => false) 0) := by
          have := put_nat (rowOf p.code.length fun _ => false) 0 true
          rw [show ((0 : Nat) : Int) = 0 from rfl] at this
          rw [this, rowOf_set]
          refine rowOf_congr fun j _ => ?_
          unfold with1; by_cases h : j = 0 <;> simp [h]
        have e4 : Sh.get (rowOf p.code.length fun _ => false) 0 = some false := by
          have := get_lt (rowOf_get (f := fun _ : Nat => false) (by omega : 0 < p.code.length))
          rwa [show ((0 : Nat) : Int) = 0 from rfl] at this
        refine ⟨nats (mk (run 0 p.code (with1 (fun _ => false) 0)) p.code.length 0), ?_, ?_, by rw [nats_len]; have := mk_len (run 0 p.code (with1 (fun _ => false) 0)) p.code.length 0; omega⟩
        · simp only [h0, h1', decide_true, Bool.and_self, Bool.not_true, Bool.false_eq_true, if_false, Option.bind_some]
          rw [e1]; rfl
        · simp only [h0', h1'', decide_false, Bool.not_true, Bool.false_eq_true, if_false, Option.bind_some]
          rw [get_lt hp]
          simp only [Option.bind_some]
          rw [len_def, mk_ok _ _ 1 (by omega) (by omega)]
          simp only [Option.bind_some]
          rw [rowOf_const, e4]
          simp only [Option.bind_some]
          rw [e3, e2]
          simp only [Option.bind_some]
          rw [indicesOf_row (by omega) hN]
          rfl
      · have h1' : ¬ f ≤ (im.procs.length : Int) - 1 := by omega
        have h1'' : (im.procs.length : Int) ≤ f := by omega
        exact ⟨[], by simp [h1'], by simp [h1''], by simp⟩
    · have h0' : f < 0 := by omega
      exact ⟨[], by simp [h0], by simp [h0'], by simp⟩
end RC

