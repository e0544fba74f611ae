import Derived.Test.YtobjlimoekffaaaGEncCToLRDefs
import Derived.Test.YtobjlimoekffaaaGPlainAToIMJ
import Derived.Test.YtobjlimoekffaaaIWA

namespace RC
open Go
def ins : List Int → Int → List Int
 | [], x => [x]
 | a :: r, x => if x ≤ a then (if x < a then x :: a :: r else a :: r) else a :: ins r x
theorem ins_len : ∀ (l : List Int) (x : Int), (ins l x).length ≤ l.length + 1
 | [], _ => by simp [ins]
 | a :: r, x => by
  have := ins_len r x
  simp only [ins]
  split
  ·split <;> simp
  ·simp only [List.length_cons]; omega
theorem ins_mem : ∀ (l : List Int) (x y : Int), y ∈ ins l x ↔ y = x ∨ y ∈ l
 | [], x, y => by simp [ins]
 | a :: r, x, y => by
  have ih := ins_mem r x y
  simp only [ins]
  split
  ·split
   ·simp
   ·have : x = a := by omega
    subst this; simp
  ·simp only [List.mem_cons, ih]
   constructor
   ·rintro (h | h | h) <;> simp [h]
   ·rintro (h | h | h) <;> simp [h]
def insD : List Int → Int → Bool
 | [], _ => false
 | a :: r, x => if x ≤ a then true else insD r x
def insA (l : List Int) (x : Int) : List Int := if insD l x then ins l x else l
theorem ins_A : ∀ (l : List Int) (x : Int), ins l x = if insD l x then insA l x else insA l x ++ [x]
 | [], x => by simp [ins, insD, insA]
 | a :: r, x => by
  have ih := ins_A r x
  simp only [insA, insD, ins] at ih ⊢
  by_cases h : x ≤ a
  ·simp [h]
  ·simp only [h, if_false] at ih ⊢
   by_cases hd : insD r x = true
   ·simp [hd]
   ·simp only [hd, if_false] at ih ⊢
    simp [ih]
theorem insert_L1_done {l : List Int} {x : Int} (hl : l.length ≤ 1048576) {N i : Nat} (hi : i ≤ l.length) (hN : l.length - i < N) : ∀ acc : List Int, acc.length ≤ 1048576 + i → spec_insert_L1 l x N true (i : Int) acc = some (true, acc ++ l.drop i) := by
 refine loop_ind l.length (fun N i => ∀ acc : List Int, acc.length ≤ 1048576 + i → spec_insert_L1 l x N true (i : Int) acc = some (true, acc ++ l.drop i)) ?_ ?_ hi hN
 ·intro n acc _
  rw [spec_insert_L1, if_neg (by simp [len_def])]; simp
 ·intro n i hi ih acc ha
  obtain ⟨y, hy, _⟩ := at_lt hi
  rw [spec_insert_L1, if_pos (by simp [len_def]; omega), get_lt hy]
  simp only [Bool.not_true, Bool.false_eq_true, if_false, Option.bind_some]
  rw [app_ok _ _ 8 (by simp; omega) (by simp; omega)]
  simp only [Option.bind_some]
  rw [w_id (by omega) (by omega), show ((i : Int) + 1) = ((i + 1 : Nat) : Int) by omega, ih _ (by simp; omega), drop_cons hy]
  simp
theorem insert_L1_eq {l : List Int} {x : Int} (hl : l.length ≤ 1048576) {N i : Nat} (hi : i ≤ l.length) (hN : l.length - i < N) : ∀ acc : List Int, acc.length ≤ i → spec_insert_L1 l x N false (i : Int) acc = some (insD (l.drop i) x, acc ++ insA (l.drop i) x) := by
 refine loop_ind l.length (fun N i => l.length - i < N → ∀ acc : List Int, acc.length ≤ i → spec_insert_L1 l x N false (i : Int) acc = some (insD (l.drop i) x, acc ++ insA (l.drop i) x)) ?_ ?_ hi hN hN
 ·intro n _ acc _
  rw [spec_insert_L1, if_neg (by simp [len_def])]; simp [insD, insA]
 ·intro n i hi ih hf acc ha
  obtain ⟨y, hy, _⟩ := at_lt hi
  have ih := ih (by omega)
  rw [spec_insert_L1, if_pos (by simp [len_def]; omega), get_lt hy]
  simp only [Bool.not_false, if_true, Option.bind_some]
  rw [w_id (n := (i : Int) + 1) (by omega) (by omega), show ((i : Int) + 1) = ((i + 1 : Nat) : Int) by omega, drop_cons hy]
  have done := insert_L1_done (l := l) (x := x) hl (N := n) (i := i + 1) (by omega) (by omega)
  by_cases h : x ≤ y
  ·simp only [h, decide_true, if_true]
   by_cases h2 : x < y
   ·simp only [h2, decide_true, if_true]
    rw [app_ok acc [x] 8 (by simp; omega) (by simp; omega)]
    simp only [Option.bind_some]
    rw [app_ok _ _ 8 (by simp; omega) (by simp; omega)]
    simp only [Option.bind_some]
    rw [done _ (by simp; omega)]
    simp [insD, insA, ins, h, h2]
   ·simp only [h2, decide_false, Bool.false_eq_true, if_false, Option.bind_some]
    rw [app_ok _ _ 8 (by simp; omega) (by simp; omega)]
    simp only [Option.bind_some]
    rw [done _ (by simp; omega)]
    simp [insD, insA, ins, h, h2]
  ·simp only [h, decide_false, Bool.false_eq_true, if_false, Option.bind_some]
   rw [app_ok _ _ 8 (by simp; omega) (by simp; omega)]
   simp only [Option.bind_some]
   rw [ih _ (by simp; omega)]
   simp only [insD, insA, ins, h, if_false, List.append_assoc, List.singleton_append]
   cases insD (l.drop (i + 1)) x <;> simp
theorem spec_insert_eq {l : List Int} {x : Int} (hl : l.length ≤ 1048576) {N : Nat} (hN : 2000000 ≤ N) : spec_insert N l x = some (ins l x) := by
 unfold spec_insert
 have := insert_L1_eq (l := l) (x := x) hl (Nat.zero_le _) (by omega : l.length - 0 < N) [] (by simp)
 rw [show ((0 : Nat) : Int) = 0 from rfl, List.drop_zero] at this
 rw [this]
 simp only [Option.bind_some, List.nil_append]
 rw [ins_A]
 cases hd : insD l x with
 | true => simp
 | false =>
  simp only [Bool.not_false, if_true, Bool.false_eq_true, if_false]
  have e : insA l x = l := by simp [insA, hd]
  rw [e, app_ok _ _ 8 (by simp; omega) (by simp; omega)]
  rfl
def with1 (m : Nat → Bool) (j : Nat) : Nat → Bool := fun k => m k || decide (k = j)
theorem mk_above {m : Nat → Bool} {n i : Nat} {y : Int} (h : y ∈ nats (mk m n i)) : (i : Int) ≤ y := by
 obtain ⟨k, hk, rfl⟩ := List.mem_map.1 h
 simp only [mk, List.mem_filter, List.mem_range'] at hk
 omega
theorem ins_first {l : List Int} {x : Int} (h : ∀ y ∈ l, x < y) : ins l x = x :: l := by
 cases l with
 | nil => rfl
 | cons a r =>
  have := h a (by simp)
  simp only [ins]
  rw [if_pos (by omega), if_pos this]
theorem mk_congr {m m' : Nat → Bool} {n i : Nat} (h : ∀ k, i ≤ k → k < n → m k = m' k) : mk m n i = mk m' n i := by
 unfold mk
 refine List.filter_congr fun k hk => ?_
 simp only [List.mem_range'] at hk
 obtain ⟨q, hq, rfl⟩ := hk
 exact h _ (by omega) (by omega)
theorem nats_cons (a : Nat) (l : List Nat) : nats (a :: l) = (a : Int) :: nats l := rfl
theorem mk_ins {m : Nat → Bool} {n j : Nat} (hj : j < n) : ∀ (d i : Nat), j - i = d → i ≤ j → ins (nats (mk m n i)) (j : Int) = nats (mk (with1 m j) n i)
 | 0, i, hd, hi => by
  have : i = j := by omega
  subst this
  rw [mk_step hj, mk_step (m := with1 m i) hj, mk_congr (m := with1 m i) (m' := m) (i := i + 1) (fun k h1 h2 => by
   have : k ≠ i := by omega
   simp [with1, this])]
  have ha : ∀ y ∈ nats (mk m n (i + 1)), (i : Int) < y := fun y hy => by have := mk_above hy; omega
  have hw : with1 m i i = true := by simp [with1]
  rw [hw]
  cases m i with
  | true =>
   simp only [if_true, List.singleton_append, nats_cons, ins]
   rw [if_pos (Int.le_refl _), if_neg (by omega)]
  | false =>
   simp only [Bool.false_eq_true, if_false, if_true, List.nil_append, List.singleton_append, nats_cons]
   exact ins_first ha
 | d + 1, i, hd, hi => by
  have ih := mk_ins (m := m) hj d (i + 1) (by omega) (by omega)
  rw [mk_step (by omega), mk_step (m := with1 m j) (i := i) (by omega)]
  have hw : with1 m j i = m i := by
   have : i ≠ j := by omega
   simp [with1, this]
  rw [hw]
  cases m i with
  | true =>
   simp only [if_true, List.singleton_append, nats_cons, ins]
   rw [if_neg (by omega), ih]
  | false =>
   simp only [Bool.false_eq_true, if_false, List.nil_append]
   exact ih
theorem mk_insert {m : Nat → Bool} {n j : Nat} (hn : n ≤ 1048576) (hj : j < n) {N : Nat} (hN : 2000000 ≤ N) : spec_insert N (nats (mk m n 0)) (j : Int) = some (nats (mk (with1 m j) n 0)) := by
 rw [spec_insert_eq (by rw [nats_len]; have := mk_len m n 0; omega) hN, mk_ins hj j 0 (by omega) (by omega)]
def withL (m : Nat → Bool) (l : List Int) : Nat → Bool := fun k => m k || decide ((k : Int) ∈ l)
theorem withL_nil (m : Nat → Bool) : withL m [] = m := by funext k; simp [withL]
theorem withL_cons (m : Nat → Bool) (j : Nat) (l : List Int) : withL m ((j : Int) :: l) = withL (with1 m j) l := by
 funext k
 simp only [withL, with1, List.mem_cons, Bool.decide_or, Bool.or_assoc]
 congr 2
 exact decide_eq_decide.2 (by omega)
end RC

