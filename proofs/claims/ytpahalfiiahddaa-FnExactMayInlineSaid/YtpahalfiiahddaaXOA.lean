import Derived.Test.YtpahalfiiahddaaGHADefsToMIDefs
import Derived.Test.YtpahalfiiahddaaGPlainAToUGDefs
import Derived.Test.YtpahalfiiahddaaXUA
import Derived.Test.YtpahalfiiahddaaHMC

namespace RC
open Go
theorem nats_append (a b : List Nat) : nats (a ++ b) = nats a ++ nats b := by simp [nats]
theorem nats_len (a : List Nat) : (nats a).length = a.length := by simp [nats]
def mk (m : Nat → Bool) (n i : Nat) : List Nat := (List.range' i (n - i)).filter m
theorem mk_end (m : Nat → Bool) (n : Nat) : mk m n n = [] := by simp [mk]
theorem mk_step {m : Nat → Bool} {n i : Nat} (hi : i < n) : mk m n i = (if m i then [i] else []) ++ mk m n (i + 1) := by
 unfold mk
 obtain ⟨k, hk⟩ : ∃ k, n - i = k + 1 := ⟨n - i - 1, by omega⟩
 rw [hk, List.range'_succ, List.filter_cons, show n - (i + 1) = k by omega]
 cases m i <;> simp
theorem mk_mem {m : Nat → Bool} {n j : Nat} : j ∈ mk m n 0 ↔ j < n ∧ m j = true := by simp [mk]
theorem mk_len (m : Nat → Bool) (n i : Nat) : (mk m n i).length ≤ n - i := by
 have := List.length_filter_le m (List.range' i (n - i))
 simpa [mk] using this
theorem rgIsIn_L1 {l : List Int} {x : Int} (hl : l.length ≤ 1048576) {N i : Nat} (hi : i ≤ l.length) (hN : l.length - i < N) : spec_isIn_L1 l x N i = some (if x ∈ l.drop i then Sum.inl true else Sum.inr ()) := by
 refine loop_ind l.length (fun N i => spec_isIn_L1 l x N i = some (if x ∈ l.drop i then Sum.inl true else Sum.inr ())) ?_ ?_ hi hN
 ·intro n
  rw [spec_isIn_L1, if_neg (by simp [len_def])]; simp
 ·intro n i hi ih
  obtain ⟨y, hy, _⟩ := at_lt hi
  rw [spec_isIn_L1, if_pos (by simp [len_def]; omega), get_lt hy]
  simp only [Option.bind_some]
  rw [w_id (by omega) (by omega), show ((i : Int) + 1) = ((i + 1 : Nat) : Int) by omega, ih, drop_cons hy]
  by_cases e : y = x
  ·subst e; simp
  ·have e' : ¬ x = y := fun h => e h.symm
   simp [e, e']
theorem rgIsIn_eq {l : List Int} {x : Int} (hl : l.length ≤ 1048576) {N : Nat} (hN : 2000000 ≤ N) : spec_isIn N l x = some (decide (x ∈ l)) := by
 unfold spec_isIn
 have := rgIsIn_L1 (x := x) hl (Nat.zero_le _) (by omega : l.length - 0 < N)
 rw [show ((0 : Nat) : Int) = 0 from rfl, List.drop_zero] at this
 rw [this]
 by_cases h : x ∈ l <;> simp [h]
def with1 (m : Nat → Bool) (j : Nat) : Nat → Bool := fun k => m k || decide (k = j)
theorem mk_above {m : Nat → Bool} {n i : Nat} {y : Int} (h : y ∈ nats (mk m n i)) : (i : Int) ≤ y := by
 obtain ⟨k, hk, rfl⟩ := List.mem_map.1 h
 simp only [mk, List.mem_filter, List.mem_range'] at hk
 omega
theorem ins_first {l : List Int} {x : Int} (h : ∀ y ∈ l, x < y) : ins l x = x :: l := by
 cases l with
 | nil => rfl
 | cons a r =>
  have := h a (by simp)
  simp only [ins]
  rw [if_pos (by omega), if_pos this]
theorem mk_congr {m m' : Nat → Bool} {n i : Nat} (h : ∀ k, i ≤ k → k < n → m k = m' k) : mk m n i = mk m' n i := by
 unfold mk
 refine List.filter_congr fun k hk => ?_
 simp only [List.mem_range'] at hk
 obtain ⟨q, hq, rfl⟩ := hk
 exact h _ (by omega) (by omega)
theorem nats_cons (a : Nat) (l : List Nat) : nats (a :: l) = (a : Int) :: nats l := rfl
theorem mk_ins {m : Nat → Bool} {n j : Nat} (hj : j < n) : ∀ (d i : Nat), j - i = d → i ≤ j → ins (nats (mk m n i)) (j : Int) = nats (mk (with1 m j) n i)
 | 0, i, hd, hi => by
  have : i = j := by omega
  subst this
  rw [mk_step hj, mk_step (m := with1 m i) hj, mk_congr (m := with1 m i) (m' := m) (i := i + 1) (fun k h1 h2 => by
   have : k ≠ i := by omega
   simp [with1, this])]
  have ha : ∀ y ∈ nats (mk m n (i + 1)), (i : Int) < y := fun y hy => by have := mk_above hy; omega
  have hw : with1 m i i = true := by simp [with1]
  rw [hw]
  cases m i with
  | true =>
   simp only [if_true, List.singleton_append, nats_cons, ins]
   rw [if_pos (Int.le_refl _), if_neg (by omega)]
  | false =>
   simp only [Bool.false_eq_true, if_false, if_true, List.nil_append, List.singleton_append, nats_cons]
   exact ins_first ha
 | d + 1, i, hd, hi => by
  have ih := mk_ins (m := m) hj d (i + 1) (by omega) (by omega)
  rw [mk_step (by omega), mk_step (m := with1 m j) (i := i) (by omega)]
  have hw : with1 m j i = m i := by
   have : i ≠ j := by omega
   simp [with1, this]
  rw [hw]
  cases m i with
  | true =>
   simp only [if_true, List.singleton_append, nats_cons, ins]
   rw [if_neg (by omega), ih]
  | false =>
   simp only [Bool.false_eq_true, if_false, List.nil_append]
   exact ih
theorem mk_insert {m : Nat → Bool} {n j : Nat} (hn : n ≤ 1048576) (hj : j < n) {N : Nat} (hN : 2000000 ≤ N) : spec_insert N (nats (mk m n 0)) (j : Int) = some (nats (mk (with1 m j) n 0)) := by
 rw [spec_insert_eq (by rw [nats_len]; have := mk_len m n 0; omega) hN, mk_ins hj j 0 (by omega) (by omega)]
def withL (m : Nat → Bool) (l : List Int) : Nat → Bool := fun k => m k || decide ((k : Int) ∈ l)
theorem withL_nil (m : Nat → Bool) : withL m [] = m := by funext k; simp [withL]
theorem withL_cons (m : Nat → Bool) (j : Nat) (l : List Int) : withL m ((j : Int) :: l) = withL (with1 m j) l := by
 funext k
 simp only [withL, with1, List.mem_cons, Bool.decide_or, Bool.or_assoc]
 congr 2
 exact decide_eq_decide.2 (by omega)
theorem isIn_mk {m : Nat → Bool} {n j : Nat} (hn : n ≤ 1048576) (hj : j < n) {N : Nat} (hN : 2000000 ≤ N) : spec_isIn N (nats (mk m n 0)) (j : Int) = some (m j) := by
 rw [rgIsIn_eq (by rw [nats_len]; have := mk_len m n 0; omega) hN]
 congr 1
 have : ((j : Int) ∈ nats (mk m n 0)) ↔ j ∈ mk m n 0 := by
  constructor
  ·intro h
   obtain ⟨k, hk, e⟩ := List.mem_map.1 h
   have : k = j := by omega
   subst this; exact hk
  ·intro h; exact List.mem_map.2 ⟨j, h, rfl⟩
 cases hm : m j with
 | true => exact decide_eq_true (this.2 (mk_mem.2 ⟨hj, hm⟩))
 | false => exact decide_eq_false fun h => by have := (mk_mem.1 (this.1 h)).2; rw [hm] at this; cases this
theorem impl_indices_L1 {m : Nat → Bool} {n0 : Nat} (hl : n0 ≤ 1048576) {N i : Nat} (hi : i ≤ n0) (hN : n0 - i < N) : ∀ acc : List Nat, acc.length ≤ i → impl_indicesOf_L1 (rowOf n0 m) N i (nats acc) = some (nats (acc ++ mk m n0 i)) := by
 refine loop_ind n0 (fun N i => ∀ acc : List Nat, acc.length ≤ i → impl_indicesOf_L1 (rowOf n0 m) N i (nats acc) = some (nats (acc ++ mk m n0 i))) ?_ ?_ hi hN
 ·intro n acc _
  rw [impl_indicesOf_L1, if_neg (by simp [len_def, rowOf_len]), mk_end, List.append_nil]
 ·intro n i hi ih acc ha
  rw [impl_indicesOf_L1, if_pos (by simp [len_def, rowOf_len]; omega), get_lt (rowOf_get hi)]
  simp only [Option.bind_some]
  rw [w_id (by omega) (by omega), show ((i : Int) + 1) = ((i + 1 : Nat) : Int) by omega, mk_step hi]
  cases m i with
  | false => simp only [Bool.false_eq_true, if_false, Option.bind_some, List.nil_append]; exact ih acc (by omega)
  | true =>
   simp only [if_true]
   rw [app_ok _ _ 8 (by rw [nats_len]; simp; omega) (by rw [nats_len]; simp; omega)]
   simp only [Option.bind_some]
   have := ih (acc ++ [i]) (by simp; omega)
   rw [nats_append, List.append_assoc] at this
   exact this
theorem indicesOf_row {m : Nat → Bool} {n : Nat} (hn : n ≤ 1048576) {N : Nat} (hN : 2000000 ≤ N) : impl_indicesOf N (rowOf n m) = some (nats (mk m n 0)) := by
 unfold impl_indicesOf
 have := impl_indices_L1 (m := m) hn (Nat.zero_le n) (by omega : n - 0 < N) [] (by simp)
 rw [show ((0 : Nat) : Int) = 0 from rfl, show nats [] = [] from rfl] at this
 rw [this]; rfl
theorem withL_app (m : Nat → Bool) (a b : List Int) : withL (withL m a) b = withL m (a ++ b) := by
 funext k; simp only [withL, List.mem_append, Bool.decide_or, Bool.or_assoc]
mutual
def nums : RExpr → List Int | .mk o n k => (if o = 9 ∨ o = 10 then [n] else []) ++ numsL k
def numsL : List RExpr → List Int | [] => [] | e :: l => nums e ++ numsL l
end
def num1 (e : RExpr) : List Int := if e.op = 9 ∨ e.op = 10 then [e.num] else []
theorem nums_eq (e : RExpr) : nums e = num1 e ++ numsL e.kids := by
 obtain ⟨o, n, k⟩ := e
 by_cases h : o = 9 ∨ o = 10
 ·have h' : (RExpr.mk o n k).op = 9 ∨ (RExpr.mk o n k).op = 10 := h
  unfold nums num1; rw [if_pos h, if_pos h']; rfl
 ·have h' : ¬ ((RExpr.mk o n k).op = 9 ∨ (RExpr.mk o n k).op = 10) := h
  unfold nums num1; rw [if_neg h, if_neg h']; rfl
theorem numsL_drop {k : List RExpr} {i : Nat} {e : RExpr} (h : k[i]? = some e) : numsL (k.drop i) = nums e ++ numsL (k.drop (i + 1)) := by rw [drop_cons h]; simp [numsL]
theorem numsL_mem {k : List RExpr} {e : RExpr} (h : e ∈ k) {x : Int} (hx : x ∈ nums e) : x ∈ numsL k := by
 induction k with
 | nil => cases h
 | cons a r ih =>
  simp only [numsL, List.mem_append]
  rcases List.mem_cons.1 h with rfl | h
  ·exact .inl hx
  ·exact .inr (ih h)
theorem num_cond {e : RExpr} : (if decide (e.op = 9) = true then some true else some (decide (e.op = 10))) = some (decide (e.op = 9 ∨ e.op = 10)) := by
 by_cases h : e.op = 9 <;> simp [h]
def InF (F : Nat) (l : List Int) : Prop := ∀ x ∈ l, 0 ≤ x ∧ x < (F : Int)
theorem calleesIn_F {N : Nat} (hN : 2000000 ≤ N) {F : Nat} (hF : F ≤ 1000) : ∀ (n : Nat) (e : RExpr) (m : Nat → Bool), en e ≤ 1000 → en e ≤ n → InF F (nums e) → spec_calleesIn_F N n e (nats (mk m F 0)) = some (nats (mk (withL m (nums e)) F 0)) := by
 intro n
 induction n with
 | zero => intro e _ _ h; have := en_pos e; omega
 | succ n ih =>
  intro e m hz hn hin
  have hk : e.kids.length ≤ 1000 := by have := enl_len e.kids; have := en_eq e; omega
  rw [spec_calleesIn_F]
  unfold spec_calleesIn_B
  have key : ∀ {M i : Nat}, i ≤ e.kids.length → e.kids.length - i < M → ∀ m : Nat → Bool, spec_calleesIn_B_L1 e (spec_calleesIn_F N n) M (nats (mk m F 0)) i = some (nats (mk (withL m (numsL (e.kids.drop i))) F 0)) := by
   intro M i hi hM
   refine loop_ind e.kids.length (fun M i => ∀ m : Nat → Bool, spec_calleesIn_B_L1 e (spec_calleesIn_F N n) M (nats (mk m F 0)) i = some (nats (mk (withL m (numsL (e.kids.drop i))) F 0))) ?_ ?_ hi hM
   ·intro q m; rw [spec_calleesIn_B_L1, if_neg (by simp [len_def]), List.drop_length]; simp [numsL, withL_nil]
   ·intro q i hi ih2 m
    obtain ⟨x, hx, hxm⟩ := at_lt hi
    have hxe := en_kid hxm
    rw [numsL_drop hx, spec_calleesIn_B_L1, if_pos (by simp [len_def]; omega), get_lt hx]
    simp only [Option.bind_some]
    rw [ih x m (by omega) (by omega) (fun y hy => hin y (by rw [nums_eq]; exact List.mem_append_right _ (numsL_mem hxm hy)))]
    simp only [Option.bind_some]
    rw [w_id (n := (i : Int) + 1) (by omega) (by omega), show ((i : Int) + 1) = ((i + 1 : Nat) : Int) by omega, ih2, withL_app]
  rw [num_cond]
  simp only [Option.bind_some]
  have e1 : (if decide (e.op = 9 ∨ e.op = 10) = true then Option.bind (spec_insert N (nats (mk m F 0)) e.num) fun q22 => some q22 else some (nats (mk m F 0))) = some (nats (mk (withL m (num1 e)) F 0)) := by
   unfold num1
   by_cases h : e.op = 9 ∨ e.op = 10
   ·rw [if_pos (by simpa using h), if_pos h]
    have := hin e.num (by rw [nums_eq]; simp [num1, h])
    obtain ⟨j, hj⟩ := Int.eq_ofNat_of_zero_le this.1
    rw [hj, mk_insert (by omega) (by omega) hN, withL_cons, withL_nil]; rfl
   ·rw [if_neg (by simpa using h), if_neg h, withL_nil]
  rw [e1]
  simp only [Option.bind_some]
  have := key (Nat.zero_le _) (by omega : e.kids.length - 0 < N) (withL m (num1 e))
  rw [List.drop_zero, show ((0 : Nat) : Int) = 0 from rfl, withL_app, ← nums_eq] at this
  rw [this]; rfl
theorem row_put {F j : Nat} {m : Nat → Bool} : Sh.put (rowOf F m) (j : Int) true = rowOf F (with1 m j) := by
 rw [put_nat, rowOf_set]
 refine rowOf_congr fun k _ => ?_
 by_cases h : k = j <;> simp [with1, h]
theorem walk3_F {N : Nat} (hN : 2000000 ≤ N) {F : Nat} (hF : F ≤ 1000) : ∀ (n : Nat) (e : RExpr) (m : Nat → Bool), en e ≤ 1000 → en e ≤ n → InF F (nums e) → impl_walk_3_F N n (rowOf F m) e = some (rowOf F (withL m (nums e))) := by
 intro n
 induction n with
 | zero => intro e _ _ h; have := en_pos e; omega
 | succ n ih =>
  intro e m hz hn hin
  have hk : e.kids.length ≤ 1000 := by have := enl_len e.kids; have := en_eq e; omega
  rw [impl_walk_3_F]
  unfold impl_walk_3_B impl_calleesOf_1
  have key : ∀ {M i : Nat}, i ≤ e.kids.length → e.kids.length - i < M → ∀ m : Nat → Bool, impl_walk_3_B_L1 e (impl_walk_3_F N n) M i (rowOf F m) = some (rowOf F (withL m (numsL (e.kids.drop i)))) := by
   intro M i hi hM
   refine loop_ind e.kids.length (fun M i => ∀ m : Nat → Bool, impl_walk_3_B_L1 e (impl_walk_3_F N n) M i (rowOf F m) = some (rowOf F (withL m (numsL (e.kids.drop i))))) ?_ ?_ hi hM
   ·intro q m; rw [impl_walk_3_B_L1, if_neg (by simp [len_def]), List.drop_length]; simp [numsL, withL_nil]
   ·intro q i hi ih2 m
    obtain ⟨x, hx, hxm⟩ := at_lt hi
    have hxe := en_kid hxm
    rw [numsL_drop hx, impl_walk_3_B_L1, if_pos (by simp [len_def]; omega), get_lt hx]
    simp only [Option.bind_some]
    rw [ih x m (by omega) (by omega) (fun y hy => hin y (by rw [nums_eq]; exact List.mem_append_right _ (numsL_mem hxm hy)))]
    simp only [Option.bind_some]
    rw [w_id (n := (i : Int) + 1) (by omega) (by omega), show ((i : Int) + 1) = ((i + 1 : Nat) : Int) by omega, ih2, withL_app]
  rw [num_cond]
  simp only [Option.bind_some]
  have e1 : (if decide (e.op = 9 ∨ e.op = 10) = true then Option.bind (Sh.get (rowOf F m) e.num) fun _ => some (Sh.put (rowOf F m) e.num true) else some (rowOf F m)) = some (rowOf F (withL m (num1 e))) := by
   unfold num1
   by_cases h : e.op = 9 ∨ e.op = 10
   ·rw [if_pos (by simpa using h), if_pos h]
    have := hin e.num (by rw [nums_eq]; simp [num1, h])
    obtain ⟨j, hj⟩ := Int.eq_ofNat_of_zero_le this.1
    rw [hj, get_lt (rowOf_get (by omega)), row_put, withL_cons, withL_nil]; rfl
   ·rw [if_neg (by simpa using h), if_neg h, withL_nil]
  rw [e1]
  simp only [Option.bind_some]
  have := key (Nat.zero_le _) (by omega : e.kids.length - 0 < N) (withL m (num1 e))
  rw [List.drop_zero, show ((0 : Nat) : Int) = 0 from rfl, withL_app, ← nums_eq] at this
  rw [this]; rfl
end RC

