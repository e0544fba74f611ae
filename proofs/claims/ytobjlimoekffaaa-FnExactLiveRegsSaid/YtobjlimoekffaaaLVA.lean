import Derived.Test.YtobjlimoekffaaaGEncCToLRDefs
import Derived.Test.YtobjlimoekffaaaIWD

namespace RC
open Go
theorem viB_ops {im : RImage} (S : ISmall im) {N : Nat} (hN : 2000000 ≤ N) (h : viB N im = true) {p : RProc} (hp : p ∈ im.procs) : ∀ i ∈ p.code, opB i.op = true := by
 unfold viB at h
 simp only [Bool.and_eq_true] at h
 have hb := List.all_eq_true.1 h.2.2 p hp
 unfold procB at hb
 simp only [Bool.and_eq_true] at hb
 obtain ⟨hs, hl, ha⟩ := hb
 intro i hi
 obtain ⟨k, hk⟩ := List.mem_iff_getElem?.1 hi
 have hv := allAt_get ha k i hk
 rw [Nat.zero_add] at hv
 have H := proc_iok S hp hs hk
 obtain ⟨b, h1, h2⟩ := instr_both H hN
 unfold instrB at hv
 rw [h1] at hv
 simp only [Option.getD_some] at hv
 subst hv
 rw [impl_pre H hN] at h2
 split at h2
 ·rename_i hc; simp only [Bool.and_eq_true] at hc; exact hc.1.1.1
 ·cases h2
def orM (m m' : Nat → Bool) : Nat → Bool := fun k => m k || m' k
def no : Nat → Bool := fun _ => false
theorem union_L1 {L : Nat} (hL : L ≤ 2000) {q : List Int} (hq : q.length ≤ 1048600) (hin : ∀ x ∈ q, 0 ≤ x ∧ x < (L : Int)) {N0 : Nat} (hN0 : 2000000 ≤ N0) {N i : Nat} (hi : i ≤ q.length) (hN : q.length - i < N) :
  ∀ m : Nat → Bool, spec_union_L1 N0 q N (i : Int) (nats (mk m L 0)) = some (nats (mk (withL m (q.drop i)) L 0)) := by
 refine loop_ind q.length (fun N i => ∀ m : Nat → Bool, spec_union_L1 N0 q N (i : Int) (nats (mk m L 0)) = some (nats (mk (withL m (q.drop i)) L 0))) ?_ ?_ hi hN
 ·intro n m
  rw [spec_union_L1, if_neg (by simp [len_def])]; simp [withL_nil]
 ·intro n i hi ih m
  obtain ⟨y, hy, hm⟩ := at_lt hi
  obtain ⟨h0, h1⟩ := hin y hm
  obtain ⟨j, rfl⟩ := Int.eq_ofNat_of_zero_le h0
  rw [spec_union_L1, if_pos (by simp [len_def]; omega), get_lt hy]
  simp only [Option.bind_some]
  rw [mk_insert (by omega) (by omega) hN0]
  simp only [Option.bind_some]
  rw [w_id (by omega) (by omega), show ((i : Int) + 1) = ((i + 1 : Nat) : Int) by omega, ih, drop_cons hy, withL_cons]
theorem usedBy_L1 {L : Nat} (hL : L ≤ 2000) {c : RInstr} (hq : c.args.length ≤ 1048600) (hin : ∀ x ∈ c.args, 0 ≤ x ∧ x < (L : Int)) {N0 : Nat} (hN0 : 2000000 ≤ N0) {N i : Nat} (hi : i ≤ c.args.length) (hN : c.args.length - i < N) :
  ∀ m : Nat → Bool, spec_usedBy_L1 N0 c N (i : Int) (nats (mk m L 0)) = some (nats (mk (withL m (c.args.drop i)) L 0)) := by
 refine loop_ind c.args.length (fun N i => ∀ m : Nat → Bool, spec_usedBy_L1 N0 c N (i : Int) (nats (mk m L 0)) = some (nats (mk (withL m (c.args.drop i)) L 0))) ?_ ?_ hi hN
 ·intro n m
  rw [spec_usedBy_L1, if_neg (by simp [len_def])]; simp [withL_nil]
 ·intro n i hi ih m
  obtain ⟨y, hy, hm⟩ := at_lt hi
  obtain ⟨h0, h1⟩ := hin y hm
  obtain ⟨j, rfl⟩ := Int.eq_ofNat_of_zero_le h0
  rw [spec_usedBy_L1, if_pos (by simp [len_def]; omega), get_lt hy]
  simp only [Option.bind_some]
  rw [mk_insert (by omega) (by omega) hN0]
  simp only [Option.bind_some]
  rw [w_id (by omega) (by omega), show ((i : Int) + 1) = ((i + 1 : Nat) : Int) by omega, ih, drop_cons hy, withL_cons]
theorem mem_mk {m : Nat → Bool} {n k : Nat} : ((k : Int) ∈ nats (mk m n 0)) ↔ k < n ∧ m k = true := by
 unfold nats
 rw [List.mem_map]
 constructor
 ·rintro ⟨j, hj, e⟩
  have : j = k := by omega
  subst this; exact mk_mem.1 hj
 ·intro h; exact ⟨k, mk_mem.2 h, rfl⟩
theorem mk_in {m : Nat → Bool} {n : Nat} : ∀ x ∈ nats (mk m n 0), 0 ≤ x ∧ x < (n : Int) := by
 intro x hx
 unfold nats at hx
 obtain ⟨j, hj, rfl⟩ := List.mem_map.1 hx
 have := (mk_mem.1 hj).1
 omega
theorem mk_le (m : Nat → Bool) (n : Nat) : (nats (mk m n 0)).length ≤ n := by rw [nats_len]; have := mk_len m n 0; omega
theorem mk_no (n : Nat) : nats (mk no n 0) = [] := by
 have : mk no n 0 = [] := by unfold mk no; simp
 rw [this]; rfl
theorem union_eq {n : Nat} (hn : n ≤ 2000) {m m' : Nat → Bool} {N : Nat} (hN : 2000000 ≤ N) : spec_union N (nats (mk m n 0)) (nats (mk m' n 0)) = some (nats (mk (orM m m') n 0)) := by
 have l1 := mk_le m n
 have l2 := mk_le m' n
 unfold spec_union
 rw [copyInts_eq (by omega)]
 simp only [Option.bind_some]
 have e := union_L1 hn (q := nats (mk m' n 0)) (by omega) mk_in hN (Nat.zero_le _) (by omega : (nats (mk m' n 0)).length - 0 < N) m
 rw [show ((0 : Nat) : Int) = 0 from rfl, List.drop_zero] at e
 rw [e]
 simp only [Option.bind_some]
 congr 2
 refine mk_congr fun k _ hk => ?_
 unfold withL orM
 congr 1
 have := mem_mk (m := m') (n := n) (k := k)
 cases h : m' k with
 | true => exact decide_eq_true (this.2 ⟨hk, h⟩)
 | false => exact decide_eq_false fun hm => by rw [(this.1 hm).2] at h; cases h
theorem without_L1 {l : List Int} {d : Int} (hl : l.length ≤ 1048576) {N i : Nat} (hi : i ≤ l.length) (hN : l.length - i < N) : ∀ acc : List Int, acc.length ≤ i → spec_without_L1 l d N (i : Int) acc = some (acc ++ (l.drop i).filter fun x => !decide (x = d)) := by
 refine loop_ind l.length (fun N i => ∀ acc : List Int, acc.length ≤ i → spec_without_L1 l d N (i : Int) acc = some (acc ++ (l.drop i).filter fun x => !decide (x = d))) ?_ ?_ hi hN
 ·intro n acc _
  rw [spec_without_L1, if_neg (by simp [len_def])]; simp
 ·intro n i hi ih acc ha
  obtain ⟨y, hy, _⟩ := at_lt hi
  rw [spec_without_L1, if_pos (by simp [len_def]; omega), get_lt hy, drop_cons hy, List.filter_cons]
  simp only [Option.bind_some]
  rw [w_id (by omega) (by omega), show ((i : Int) + 1) = ((i + 1 : Nat) : Int) by omega]
  cases h : decide (y = d) with
  | true => simp only [Bool.not_true, Bool.false_eq_true, if_false, Option.bind_some]; exact ih acc (by omega)
  | false =>
   simp only [Bool.not_false, if_true]
   rw [app_ok _ _ 8 (by simp; omega) (by simp; omega)]
   simp only [Option.bind_some]
   rw [ih _ (by simp; omega), List.append_assoc]; rfl
def less (m : Nat → Bool) (d : Int) : Nat → Bool := fun k => m k && !decide ((k : Int) = d)
theorem without_eq {n : Nat} (hn : n ≤ 2000) {m : Nat → Bool} {d : Int} {N : Nat} (hN : 2000000 ≤ N) : spec_without N (nats (mk m n 0)) d = some (nats (mk (less m d) n 0)) := by
 have l1 := mk_le m n
 unfold spec_without
 have e := without_L1 (d := d) (by omega : (nats (mk m n 0)).length ≤ 1048576) (Nat.zero_le _) (by omega : (nats (mk m n 0)).length - 0 < N) [] (by simp)
 rw [show ((0 : Nat) : Int) = 0 from rfl, List.drop_zero, List.nil_append] at e
 rw [e]
 simp only [Option.bind_some]
 congr 1
 unfold nats mk less
 rw [List.filter_map, List.filter_filter]
 congr 1
 refine List.filter_congr fun x _ => ?_
 simp only [Function.comp_apply]
 exact Bool.and_comm _ _
theorem liL4 {n : Nat} (hn : n ≤ 2000) {m' : Nat → Bool} {N i : Nat} (hi : i ≤ n) (hN : n - i < N) : ∀ m : Nat → Bool, impl_liveRegs_L4 (rowOf n m') N (i : Int) (rowOf n m) = some (rowOf n fun k => m k || (decide (i ≤ k) && m' k)) := by
 refine loop_ind n (fun N i => ∀ m : Nat → Bool, impl_liveRegs_L4 (rowOf n m') N (i : Int) (rowOf n m) = some (rowOf n fun k => m k || (decide (i ≤ k) && m' k))) ?_ ?_ hi hN
 ·intro n0 m
  rw [impl_liveRegs_L4, if_neg (by simp [len_def, rowOf_len])]
  congr 1
  refine rowOf_congr fun j hj => ?_
  simp; intro h; omega
 ·intro n0 i hi ih m
  rw [impl_liveRegs_L4, if_pos (by simp [len_def, rowOf_len]; omega), get_lt (rowOf_get hi), get_lt (rowOf_get hi)]
  simp only [Option.bind_some]
  rw [w_id (by omega) (by omega), show ((i : Int) + 1) = ((i + 1 : Nat) : Int) by omega, put_nat, put_nat, rowOf_set, rowOf_set]
  cases h : m i with
  | true =>
   simp only [if_true, Option.bind_some]
   rw [ih]
   congr 1
   refine rowOf_congr fun j _ => ?_
   by_cases e : j = i
   ·subst e; simp [h]
   ·by_cases e2 : i ≤ j
    ·have : i + 1 ≤ j := by omega
     simp [e, e2, this]
    ·have : ¬ i + 1 ≤ j := by omega
     simp [e, e2, this]
  | false =>
   simp only [Bool.false_eq_true, if_false, Option.bind_some]
   rw [ih]
   congr 1
   refine rowOf_congr fun j _ => ?_
   by_cases e : j = i
   ·subst e; simp [h]
   ·by_cases e2 : i ≤ j
    ·have : i + 1 ≤ j := by omega
     simp [e, e2, this]
    ·have : ¬ i + 1 ≤ j := by omega
     simp [e, e2, this]
theorem liL3 {L : Nat} (hL : L ≤ 2000) {c : RInstr} (hq : c.args.length ≤ 1048600) (hin : ∀ x ∈ c.args, 0 ≤ x ∧ x < (L : Int)) {N i : Nat} (hi : i ≤ c.args.length) (hN : c.args.length - i < N) :
  ∀ m : Nat → Bool, impl_liveRegs_L3 c N (i : Int) (rowOf L m) = some (rowOf L (withL m (c.args.drop i))) := by
 refine loop_ind c.args.length (fun N i => ∀ m : Nat → Bool, impl_liveRegs_L3 c N (i : Int) (rowOf L m) = some (rowOf L (withL m (c.args.drop i)))) ?_ ?_ hi hN
 ·intro n m
  rw [impl_liveRegs_L3, if_neg (by simp [len_def])]; simp [withL_nil]
 ·intro n i hi ih m
  obtain ⟨y, hy, hm⟩ := at_lt hi
  obtain ⟨h0, h1⟩ := hin y hm
  obtain ⟨j, rfl⟩ := Int.eq_ofNat_of_zero_le h0
  rw [impl_liveRegs_L3, if_pos (by simp [len_def]; omega), get_lt hy]
  simp only [Option.bind_some]
  rw [get_lt (rowOf_get (by omega : j < L)), put_nat, rowOf_set]
  simp only [Option.bind_some]
  have e : (fun k => if k = j then true else m k) = with1 m j := by
   funext k; unfold with1; by_cases h : k = j <;> simp [h]
  rw [e, w_id (by omega) (by omega), show ((i : Int) + 1) = ((i + 1 : Nat) : Int) by omega, ih, drop_cons hy, withL_cons]
def tabS (n : Nat) (T : Nat → Nat → Bool) (k j : Nat) : List Int := if k ≤ j then nats (mk (T j) n 0) else []
def tabI (n : Nat) (T : Nat → Nat → Bool) (k j : Nat) : List Bool := if k ≤ j then rowOf n (T j) else []
def orT (T : Nat → Nat → Bool) (m : Nat → Bool) (q : List Int) : Nat → Bool := fun r => m r || q.any fun x => T x.toNat r
theorem orT_nil (T : Nat → Nat → Bool) (m : Nat → Bool) : orT T m [] = m := by funext r; simp [orT]
theorem orT_cons (T : Nat → Nat → Bool) (m : Nat → Bool) (j : Nat) (q : List Int) : orT T m ((j : Int) :: q) = orT T (orM m (T j)) q := by
 funext r; simp only [orT, orM, List.any_cons, Int.toNat_natCast, Bool.or_assoc]
theorem orT_congr {T : Nat → Nat → Bool} {m : Nat → Bool} {q q' : List Int} (h : ∀ x, x ∈ q ↔ x ∈ q') : orT T m q = orT T m q' := by
 funext r
 unfold orT
 congr 1
 rw [Bool.eq_iff_iff, List.any_eq_true, List.any_eq_true]
 exact ⟨fun ⟨x, h1, h2⟩ => ⟨x, (h x).1 h1, h2⟩, fun ⟨x, h1, h2⟩ => ⟨x, (h x).2 h1, h2⟩⟩
theorem lsL2 {n L k : Nat} (hn : n ≤ 2000) (hL : L ≤ 2000) {T : Nat → Nat → Bool} {q : List Int} (hq : q.length ≤ 1048600) (hin : ∀ x ∈ q, (k : Int) ≤ x ∧ x < (L : Int)) {N0 : Nat} (hN0 : 2000000 ≤ N0) {N i : Nat} (hi : i ≤ q.length) (hN : q.length - i < N) :
  ∀ m : Nat → Bool, spec_liveFrom_L2 N0 (rowOf L (tabS n T k)) q N (i : Int) (nats (mk m n 0)) = some (nats (mk (orT T m (q.drop i)) n 0)) := by
 refine loop_ind q.length (fun N i => ∀ m : Nat → Bool, spec_liveFrom_L2 N0 (rowOf L (tabS n T k)) q N (i : Int) (nats (mk m n 0)) = some (nats (mk (orT T m (q.drop i)) n 0))) ?_ ?_ hi hN
 ·intro n0 m
  rw [spec_liveFrom_L2, if_neg (by simp [len_def])]; simp [orT_nil]
 ·intro n0 i hi ih m
  obtain ⟨y, hy, hm⟩ := at_lt hi
  obtain ⟨h0, h1⟩ := hin y hm
  obtain ⟨j, rfl⟩ := Int.eq_ofNat_of_zero_le (by omega : 0 ≤ y)
  rw [spec_liveFrom_L2, if_pos (by simp [len_def]; omega), get_lt hy]
  simp only [Option.bind_some]
  rw [get_lt (rowOf_get (by omega : j < L))]
  simp only [Option.bind_some]
  rw [show tabS n T k j = nats (mk (T j) n 0) by unfold tabS; rw [if_pos (by omega)], union_eq hn hN0]
  simp only [Option.bind_some]
  rw [w_id (by omega) (by omega), show ((i : Int) + 1) = ((i + 1 : Nat) : Int) by omega, ih, drop_cons hy, orT_cons]
theorem liL2 {n L t : Nat} (hn : n ≤ 2000) (hL : L ≤ 2000) {T : Nat → Nat → Bool} {q : List Int} (hq : q.length ≤ 1048600) (hin : ∀ x ∈ q, (t : Int) < x ∧ x < (L : Int)) {N0 : Nat} (hN0 : 2000000 ≤ N0) {N i : Nat} (hi : i ≤ q.length) (hN : q.length - i < N) :
  ∀ m : Nat → Bool, impl_liveRegs_L2 N0 (t : Int) (rowOf L (tabI n T (t + 1))) q N (i : Int) (rowOf n m) = some (rowOf n (orT T m (q.drop i))) := by
 refine loop_ind q.length (fun N i => ∀ m : Nat → Bool, impl_liveRegs_L2 N0 (t : Int) (rowOf L (tabI n T (t + 1))) q N (i : Int) (rowOf n m) = some (rowOf n (orT T m (q.drop i)))) ?_ ?_ hi hN
 ·intro n0 m
  rw [impl_liveRegs_L2, if_neg (by simp [len_def])]; simp [orT_nil]
 ·intro n0 i hi ih m
  obtain ⟨y, hy, hm⟩ := at_lt hi
  obtain ⟨h0, h1⟩ := hin y hm
  obtain ⟨j, rfl⟩ := Int.eq_ofNat_of_zero_le (by omega : 0 ≤ y)
  have hne : ¬ (t : Int) = (j : Int) := by omega
  rw [impl_liveRegs_L2, if_pos (by simp [len_def]; omega), get_lt hy]
  simp only [Option.bind_some]
  rw [get_lt (rowOf_get (by omega : j < L))]
  simp only [Option.bind_some]
  rw [show Sh.apart (t : Int) (j : Int) = some () by unfold Sh.apart; rw [if_neg hne]]
  simp only [Option.bind_some]
  rw [show tabI n T (t + 1) j = rowOf n (T j) by unfold tabI; rw [if_pos (by omega)]]
  have e := liL4 hn (m' := T j) (Nat.zero_le n) (by omega : n - 0 < N0) m
  rw [show ((0 : Nat) : Int) = 0 from rfl] at e
  rw [e]
  simp only [Option.bind_some]
  rw [w_id (by omega) (by omega), show ((i : Int) + 1) = ((i + 1 : Nat) : Int) by omega]
  have e2 : (fun k => m k || (decide (0 ≤ k) && T j k)) = orM m (T j) := by funext k; simp [orM]
  rw [e2, ih, drop_cons hy, orT_cons]
def stepM (i : RInstr) (m1 : Nat → Bool) : Nat → Bool :=
 orM (if setsB i.op = true then less m1 i.dst else m1) (if decide (i.op = 14) || decide (i.op = 15) then no else withL no i.args)
def upT (T : Nat → Nat → Bool) (t : Nat) (M : Nat → Bool) : Nat → Nat → Bool := fun j => if j = t then M else T j
theorem tabS_up {n t L : Nat} {T : Nat → Nat → Bool} {M : Nat → Bool} : Sh.put (rowOf L (tabS n T (t + 1))) (t : Int) (nats (mk M n 0)) = rowOf L (tabS n (upT T t M) t) := by
 rw [put_nat, rowOf_set]
 refine rowOf_congr fun j _ => ?_
 unfold tabS upT
 by_cases h : j = t
 ·subst h; simp
 ·by_cases h2 : t ≤ j
  ·have : t + 1 ≤ j := by omega
   simp [h, h2, this]
  ·have : ¬ t + 1 ≤ j := by omega
   simp [h, h2, this]
theorem tabI_up {n t L : Nat} {T : Nat → Nat → Bool} {M : Nat → Bool} : Sh.put (rowOf L (tabI n T (t + 1))) (t : Int) (rowOf n M) = rowOf L (tabI n (upT T t M) t) := by
 rw [put_nat, rowOf_set]
 refine rowOf_congr fun j _ => ?_
 unfold tabI upT
 by_cases h : j = t
 ·subst h; simp
 ·by_cases h2 : t ≤ j
  ·have : t + 1 ≤ j := by omega
   simp [h, h2, this]
  ·have : ¬ t + 1 ≤ j := by omega
   simp [h, h2, this]
theorem usedBy_eq {n : Nat} (hn : n ≤ 2000) {c : RInstr} (hq : c.args.length ≤ 1048576) (hin : ∀ x ∈ c.args, 0 ≤ x ∧ x < (n : Int)) {N : Nat} (hN : 2000000 ≤ N) :
  spec_usedBy N c = some (nats (mk (if decide (c.op = 14) || decide (c.op = 15) then no else withL no c.args) n 0)) := by
 unfold spec_usedBy
 have e := usedBy_L1 hn (by omega) hin hN (Nat.zero_le _) (by omega : c.args.length - 0 < N) no
 rw [show ((0 : Nat) : Int) = 0 from rfl, List.drop_zero, mk_no] at e
 rw [e]
 cases h1 : decide (c.op = 14) with
 | true => simp [mk_no]
 | false =>
  cases h2 : decide (c.op = 15) with
  | true => simp [mk_no]
  | false => simp
theorem withL_or {m : Nat → Bool} {l : List Int} : withL m l = orM m (withL no l) := by funext k; simp [withL, orM, no]
structure PA (p : RProc) : Prop where
 v : PV p
 ops : ∀ i ∈ p.code, opB i.op = true
 ar : ∀ i ∈ p.code, i.args.length ≤ 1048576 ∧ i.jumps.length ≤ 1048576
theorem live_L1 {p : RProc} (A : PA p) {n : Nat} (hr : p.regs = (n : Int)) {a : Nat} {N0 : Nat} (hN0 : 2000000 ≤ N0) : ∀ (d k : Nat), k = a + d → k ≤ p.code.length → ∀ (T : Nat → Nat → Bool) (N1 N2 : Nat) (z : Int), z = (k : Int) - 1 → d < N1 → d < N2 →
  ∃ T', spec_liveFrom_L1 N0 p.code (a : Int) N1 z (rowOf p.code.length (tabS n T k)) = some (rowOf p.code.length (tabS n T' a)) ∧
   impl_liveRegs_L1 N0 p (a : Int) N2 z (rowOf p.code.length (tabI n T k)) = some (rowOf p.code.length (tabI n T' a)) := by
 have hc := A.v.c2
 have hn : n ≤ 2000 := by have := A.v.r2; omega
 intro d
 induction d with
 | zero =>
  intro k hk _ T N1 N2 z hz h1 h2
  obtain ⟨N1, rfl⟩ : ∃ m, N1 = m + 1 := ⟨N1 - 1, by omega⟩
  obtain ⟨N2, rfl⟩ : ∃ m, N2 = m + 1 := ⟨N2 - 1, by omega⟩
  have hna : ¬ (a : Int) ≤ z := by omega
  have : k = a := by omega
  subst this
  exact ⟨T, by rw [spec_liveFrom_L1, if_neg (by simpa using hna)], by rw [impl_liveRegs_L1, if_neg (by simpa using hna)]⟩
 | succ d ih =>
  intro k hk hkl T N1 N2 z hz h1 h2
  obtain ⟨N1, rfl⟩ : ∃ m, N1 = m + 1 := ⟨N1 - 1, by omega⟩
  obtain ⟨N2, rfl⟩ : ∃ m, N2 = m + 1 := ⟨N2 - 1, by omega⟩
  obtain ⟨t, rfl⟩ : ∃ t, k = t + 1 := ⟨k - 1, by omega⟩
  have hzt : z = (t : Int) := by omega
  subst hzt
  have htl : t < p.code.length := by omega
  have hat : (a : Int) ≤ (t : Int) := by omega
  obtain ⟨i, hi, him⟩ := at_lt htl
  have hin := nx_in (A.v.leads t i hi)
  obtain ⟨hal, hjl⟩ := A.ar i him
  have hargs : ∀ x ∈ i.args, 0 ≤ x ∧ x < (n : Int) := fun x hx => by have := A.v.args i him x hx; omega
  obtain ⟨d0, d1⟩ := A.v.dst i him
  have hop := A.ops i him
  have h7 : i.op ≠ 7 := by intro e; simp [opB, e] at hop
  have h8 : i.op ≠ 8 := by intro e; simp [opB, e] at hop
  have hsl := sx_len i t
  have hnl := nx_len i t
  have e1 := lsL2 (n := n) (L := p.code.length) (k := t + 1) hn hc (T := T) (q := sx i t) (by omega) (fun x hx => by have := hin x ((sx_nx i t x).1 hx); omega) hN0 (Nat.zero_le _) (by omega : (sx i t).length - 0 < N0) no
  have e2 := liL2 (n := n) (L := p.code.length) (t := t) hn hc (T := T) (q := nx i t) (by omega) (fun x hx => by have := hin x hx; omega) hN0 (Nat.zero_le _) (by omega : (nx i t).length - 0 < N0) no
  rw [show ((0 : Nat) : Int) = 0 from rfl, List.drop_zero] at e1 e2
  rw [mk_no] at e1
  rw [orT_congr (sx_nx i t)] at e1
  generalize hm1 : orT T no (nx i t) = m1 at e1 e2
  obtain ⟨T', g1, g2⟩ := ih t (by omega) (by omega) (upT T t (stepM i m1)) N1 N2 ((t : Int) - 1) rfl (by omega) (by omega)
  refine ⟨T', ?_, ?_⟩
  ·rw [spec_liveFrom_L1, if_pos (by simpa using hat), nextOf_eq hi (by omega) hjl hN0]
   simp only [Option.bind_some]
   rw [e1]
   simp only [Option.bind_some]
   rw [get_lt hi]
   simp only [Option.bind_some]
   rw [spec_sets_eq]
   simp only [Option.bind_some]
   have e3 : (if setsB i.op = true then Option.bind (spec_without N0 (nats (mk m1 n 0)) i.dst) fun q35 => some q35 else some (nats (mk m1 n 0))) = some (nats (mk (if setsB i.op = true then less m1 i.dst else m1) n 0)) := by
    cases setsB i.op with
    | true => simp only [if_true]; rw [without_eq hn hN0]; rfl
    | false => simp
   rw [e3]
   simp only [Option.bind_some]
   rw [usedBy_eq hn hal hargs hN0]
   simp only [Option.bind_some]
   rw [union_eq hn hN0]
   simp only [Option.bind_some]
   rw [get_lt (rowOf_get htl)]
   simp only [Option.bind_some]
   rw [w_id (by omega) (by omega)]
   have e4 : tabS n T (t + 1) = tabS n T (t + 1) := rfl
   rw [tabS_up]
   exact g1
  ·rw [impl_liveRegs_L1, if_pos (by simpa using hat), get_lt hi]
   simp only [Option.bind_some]
   rw [hr, mk_ok _ _ 1 (by omega) (by omega), rowOf_const]
   simp only [Option.bind_some]
   rw [get_lt (rowOf_get htl)]
   simp only [Option.bind_some]
   rw [nexts_eq (by omega)]
   simp only [Option.bind_some]
   rw [show (rowOf n fun _ => false) = rowOf n no from rfl, e2]
   simp only [Option.bind_some]
   rw [impl_sets_eq h7 h8]
   simp only [Option.bind_some]
   obtain ⟨dn, hd⟩ := Int.eq_ofNat_of_zero_le d0
   have hdn : dn < n := by omega
   have e3 : (if setsB i.op = true then Option.bind (Sh.get (rowOf n m1) i.dst) fun c58 => some (Sh.put (rowOf n m1) i.dst false) else some (rowOf n m1)) = some (rowOf n (if setsB i.op = true then less m1 i.dst else m1)) := by
    cases setsB i.op with
    | true =>
     simp only [if_true]
     rw [hd, get_lt (rowOf_get hdn), put_nat, rowOf_set]
     simp only [Option.bind_some]
     congr 1
     refine rowOf_congr fun j _ => ?_
     unfold less
     by_cases e : j = dn
     ·subst e; simp
     ·have : ¬ (j : Int) = (dn : Int) := by omega
      simp [e, this]
    | false => simp
   rw [e3]
   simp only [Option.bind_some]
   have e5 := liL3 hn (c := i) (by omega) hargs (Nat.zero_le _) (by omega : i.args.length - 0 < N0) (if setsB i.op = true then less m1 i.dst else m1)
   rw [show ((0 : Nat) : Int) = 0 from rfl, List.drop_zero, withL_or] at e5
   have e6 : Option.bind (if (!decide (i.op = 14)) = true then some (!decide (i.op = 15)) else some false) (fun t38 =>
     if t38 = true then Option.bind (impl_liveRegs_L3 i N0 0 (rowOf n (if setsB i.op = true then less m1 i.dst else m1))) fun l45 => some l45
     else some (rowOf n (if setsB i.op = true then less m1 i.dst else m1))) = some (rowOf n (stepM i m1)) := by
    rw [e5]
    unfold stepM
    have en : ∀ m : Nat → Bool, orM m no = m := fun m => by funext k; simp [orM, no]
    cases h1 : decide (i.op = 14) with
    | true => simp [en]
    | false =>
     cases h2 : decide (i.op = 15) with
     | true => simp [en]
     | false => simp
   rw [e6]
   simp only [Option.bind_some]
   rw [w_id (by omega) (by omega), tabI_up]
   exact g2
theorem liveFrom_both {im : RImage} {f : Nat} {p : RProc} (hp : im.procs[f]? = some p) (A : PA p) {a : Nat} (ha : a < p.code.length) {N : Nat} (hN : 2000000 ≤ N) :
  ∃ (n : Nat) (m : Nat → Bool) (tab : List (List Int)), p.regs = (n : Int) ∧ n ≤ 2000 ∧ spec_liveFrom N p.code (a : Int) = some tab ∧ Sh.get tab (a : Int) = some (nats (mk m n 0)) ∧ impl_liveRegs N im (f : Int) (a : Int) = some (nats (mk m n 0)) := by
 have hc := A.v.c2
 have r1 := A.v.r1
 have r2 := A.v.r2
 obtain ⟨n, hr⟩ := Int.eq_ofNat_of_zero_le (by omega : 0 ≤ p.regs)
 have hn : n ≤ 2000 := by omega
 have T0 : Nat → Nat → Bool := fun _ _ => false
 obtain ⟨T', g1, g2⟩ := live_L1 A hr (a := a) hN (p.code.length - a) p.code.length (by omega) (Nat.le_refl _) T0 N N ((p.code.length : Int) - 1) rfl (by omega) (by omega)
 have z1 : rowOf p.code.length (tabS n T0 p.code.length) = List.replicate p.code.length [] := by
  rw [rowOf_const]
  refine rowOf_congr fun j hj => ?_
  unfold tabS; rw [if_neg (by omega)]
 have z2 : rowOf p.code.length (tabI n T0 p.code.length) = List.replicate p.code.length [] := by
  rw [rowOf_const]
  refine rowOf_congr fun j hj => ?_
  unfold tabI; rw [if_neg (by omega)]
 rw [z1] at g1
 rw [z2] at g2
 refine ⟨n, T' a, rowOf p.code.length (tabS n T' a), hr, hn, ?_, ?_, ?_⟩
 ·unfold spec_liveFrom
  rw [len_def, mk_ok _ _ 24 (by omega) (by omega)]
  simp only [Option.bind_some]
  rw [w_id (by omega) (by omega), g1]; rfl
 ·rw [get_lt (rowOf_get ha)]
  unfold tabS; rw [if_pos (Nat.le_refl _)]
 ·unfold impl_liveRegs
  rw [get_lt hp]
  simp only [Option.bind_some]
  rw [len_def, mk_ok _ _ 24 (by omega) (by omega)]
  simp only [Option.bind_some]
  rw [w_id (by omega) (by omega), g2]
  simp only [Option.bind_some]
  rw [get_lt (rowOf_get ha)]
  simp only [Option.bind_some]
  rw [show tabI n T' a a = rowOf n (T' a) by unfold tabI; rw [if_pos (Nat.le_refl _)], indicesOf_row (by omega) hN]; rfl
theorem viB_PA {im : RImage} (S : ISmall im) {N : Nat} (hN : 2000000 ≤ N) (h : viB N im = true) {p : RProc} (hp : p ∈ im.procs) : PA p :=
 ⟨viB_proc S hN h hp, viB_ops S hN h hp, fun i hi => S.ar p hp i hi⟩
theorem LiveRegs_both {im : RImage} (S : ISmall im) {f a : Int} {N : Nat} (hN : 2000000 ≤ N) : ∃ out : List Int, spec_LiveRegs N im f a = some out ∧ impl_LiveRegs N im f a = some out ∧ out.length ≤ 2000 := by
 have hpl := S.pl
 unfold spec_LiveRegs impl_LiveRegs
 rw [spec_validImage_eq S hN, impl_ValidImage_eq S hN, inRange_eq, len_def, w_id (n := (im.procs.length : Int) - 1) (by omega) (by omega)]
 simp only [Option.bind_some]
 cases hv : viB N im with
 | false => exact ⟨[], by simp, by simp, by simp⟩
 | true =>
  by_cases h0 : 0 ≤ f
  ·by_cases h1 : f < (im.procs.length : Int)
   ·obtain ⟨k, rfl⟩ := Int.eq_ofNat_of_zero_le h0
    obtain ⟨p, hp, hm⟩ := at_lt (l := im.procs) (i := k) (by omega)
    have A := viB_PA S hN hv hm
    have hc1 := A.v.c1
    have hc2 := A.v.c2
    have h1' : (k : Int) ≤ (im.procs.length : Int) - 1 := by omega
    have h1'' : ¬ (im.procs.length : Int) ≤ (k : Int) := by omega
    have h0' : ¬ (k : Int) < 0 := by omega
    simp only [h0, h1', h0', h1'', decide_true, decide_false, Bool.and_self, Bool.not_true, Bool.false_eq_true, if_false]
    rw [get_lt hp]
    simp only [Option.bind_some]
    rw [inRange_eq, len_def, w_id (n := (p.code.length : Int) - 1) (by omega) (by omega)]
    by_cases a0 : 0 ≤ a
    ·by_cases a1 : a < (p.code.length : Int)
     ·obtain ⟨b, rfl⟩ := Int.eq_ofNat_of_zero_le a0
      have a1' : (b : Int) ≤ (p.code.length : Int) - 1 := by omega
      have a1'' : ¬ (p.code.length : Int) ≤ (b : Int) := by omega
      have a0' : ¬ (b : Int) < 0 := by omega
      obtain ⟨n, m, tab, _, hn, s1, s2, s3⟩ := liveFrom_both hp A (a := b) (by omega) hN
      have hml := mk_le m n
      refine ⟨nats (mk m n 0), ?_, ?_, by omega⟩
      ·simp only [a0, a1', decide_true, Bool.and_self, Bool.not_true, Bool.false_eq_true, if_false, Option.bind_some]
       rw [s1]
       simp only [Option.bind_some]
       rw [s2]
       simp only [Option.bind_some]
       rw [copyInts_eq (by omega)]; rfl
      ·simp only [a0', a1'', decide_false, Bool.not_true, Bool.false_eq_true, if_false, Option.bind_some]
       rw [s3]; rfl
     ·have a1' : ¬ a ≤ (p.code.length : Int) - 1 := by omega
      have a1'' : (p.code.length : Int) ≤ a := by omega
      exact ⟨[], by simp [a1'], by simp [a1''], by simp⟩
    ·have a0' : a < 0 := by omega
     exact ⟨[], by simp [a0], by simp [a0'], by simp⟩
   ·have h1' : ¬ f ≤ (im.procs.length : Int) - 1 := by omega
    have h1'' : (im.procs.length : Int) ≤ f := by omega
    exact ⟨[], by simp [h1'], by simp [h1''], by simp⟩
  ·have h0' : f < 0 := by omega
   exact ⟨[], by simp [h0], by simp [h0'], by simp⟩
theorem FnExactLiveRegs_plain {x : RImage} {f a : Int} (H : RImageIn x) (_ : I64 f) (_ : I64 a) : laws_FnExactLiveRegs 2000000 x f a = some true := by
 have hN : (2000000 : Nat) ≤ 2000000 := Nat.le_refl _
 unfold laws_FnExactLiveRegs
 rw [szImage_eq H (by omega) (by omega) hN]
 simp only [Option.bind_some]
 by_cases h : (1048576 : Int) - (imz x : Int) < 0
 ·rw [lft_neg h]; rfl
 ·rw [lft_pos h]
  have hz : imz x ≤ 1048576 := by omega
  have S := small_of hz
  obtain ⟨out, h1, h2, h3⟩ := LiveRegs_both S (f := f) (a := a) hN
  obtain ⟨k, r, hm⟩ := markImage_eq hz hN
  have hk : decide ((k : Int) < 0) = false := decide_eq_false (by omega)
  have e1 := markIntS_eq (l := out) (by omega) (k := 1) (by omega) hN
  have e2 := heldIntS_eq (m := out.length) (by omega) (k := 1) (by omega) hN
  rw [show ((1 : Nat) : Int) = 1 from rfl] at e1 e2
  have hk2 : decide (((1 + out.length : Nat) : Int) < 0) = false := decide_eq_false (by omega)
  rw [if_neg (by simpa using h), toImage_eq hz hN]
  simp only [Option.bind_some]
  rw [h1, h2]
  simp only [Option.bind_some]
  rw [eqIntS_eq (by omega) hN, eqImage_eq hz hN]
  simp only [Option.bind_some]
  rw [hm]
  simp only [Option.bind_some, Bool.not_true, Bool.false_eq_true, if_false]
  rw [hk]
  simp only [Bool.false_eq_true, if_false, Option.bind_some]
  rw [e1]
  simp only [Option.bind_some]
  rw [e2]
  simp only [Option.bind_some]
  rw [hk2]
  simp
end RC

