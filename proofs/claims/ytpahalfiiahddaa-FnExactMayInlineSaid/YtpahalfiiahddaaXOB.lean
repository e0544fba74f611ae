import Derived.Test.YtpahalfiiahddaaXOA

namespace RC
open Go
def pop (m : Nat → Bool) : Nat → Nat | 0 => 0 | n + 1 => pop m n + (if m n then 1 else 0)
theorem pop_le (m : Nat → Bool) : ∀ n, pop m n ≤ n
 | 0 => Nat.le_refl _
 | n + 1 => by have := pop_le m n; simp only [pop]; split <;> omega
theorem pop_mono {m m' : Nat → Bool} : ∀ {n : Nat}, (∀ k, k < n → m k = true → m' k = true) → pop m n ≤ pop m' n
 | 0, _ => Nat.le_refl _
 | n + 1, h => by
  have ih := pop_mono (n := n) fun k hk => h k (by omega)
  have h1 := h n (by omega)
  simp only [pop]
  cases hm : m n with
  | false => simp only [Bool.false_eq_true, if_false]; omega
  | true => rw [h1 hm]; simp only [if_true]; omega
theorem pop_lt {m m' : Nat → Bool} {j : Nat} (h0 : m j = false) (h1 : m' j = true) : ∀ {n : Nat}, j < n → (∀ k, k < n → m k = true → m' k = true) → pop m n + 1 ≤ pop m' n
 | 0, hj, _ => by omega
 | n + 1, hj, h => by
  simp only [pop]
  by_cases e : j = n
  ·subst e
   have := pop_mono (n := j) fun k hk => h k (by omega)
   rw [h0, h1]; simp only [Bool.false_eq_true, if_false, if_true]; omega
  ·have ih := pop_lt h0 h1 (n := n) (by omega) fun k hk => h k (by omega)
   have h2 := h n (by omega)
   cases hm : m n with
   | false => simp only [Bool.false_eq_true, if_false]; omega
   | true => rw [h2 hm]; simp only [if_true]; omega
theorem pop_with1 {m : Nat → Bool} {j : Nat} (h0 : m j = false) : ∀ {n : Nat}, j < n → pop (with1 m j) n = pop m n + 1
 | 0, hj => by omega
 | n + 1, hj => by
  simp only [pop]
  by_cases e : j = n
  ·subst e
   have a : ∀ n, n ≤ j → pop (with1 m j) n = pop m n := by
    intro n
    induction n with
    | zero => intro _; rfl
    | succ n ih =>
     intro hn
     have : n ≠ j := by omega
     simp [pop, ih (by omega), with1, this]
   rw [a j (Nat.le_refl _)]
   simp [with1, h0]
  ·have ih := pop_with1 h0 (n := n) (by omega)
   have : n ≠ j := fun h => e h.symm
   rw [ih]; simp [with1, this]; omega
def push : List Int → (Nat → Bool) → List Int → (Nat → Bool) × List Int
 | [], m, w => (m, w)
 | x :: q, m, w => if m x.toNat then push q m w else push q (with1 m x.toNat) (w ++ [x])
structure Pushed (F : Nat) (q : List Int) (m : Nat → Bool) (w : List Int) (m' : Nat → Bool) (w' : List Int) : Prop where
 new : ∃ v, w' = w ++ v ∧ InF F v ∧ (∀ x ∈ v, m' x.toNat = true) ∧ (∀ k, k < F → m' k = true → m k = true ∨ (k : Int) ∈ v) ∧ v.length + pop m F = pop m' F
 mono : ∀ k, m k = true → m' k = true
 all : ∀ x ∈ q, m' x.toNat = true
 only : ∀ k, m' k = true → m k = true ∨ (k : Int) ∈ q
theorem push_ok {F : Nat} : ∀ (q : List Int) (m : Nat → Bool) (w : List Int), InF F q → Pushed F q m w (push q m w).1 (push q m w).2
 | [], m, w, _ => ⟨⟨[], by simp [push], fun _ h => (by cases h), fun _ h => (by cases h), fun _ _ h => .inl h, by simp [push]⟩, fun _ h => h, fun _ h => (by cases h), fun _ h => .inl h⟩
 | x :: q, m, w, hq => by
  have hx := hq x (by simp)
  have hq' : InF F q := fun y hy => hq y (by simp [hy])
  simp only [push]
  cases hm : m x.toNat with
  | true =>
   simp only [if_true]
   obtain ⟨a, b, c, d⟩ := push_ok q m w hq'
   refine ⟨a, b, fun y hy => ?_, fun k hk => (d k hk).imp id fun h => by simp [h]⟩
   rcases List.mem_cons.1 hy with rfl | hy
   ·exact b _ hm
   ·exact c y hy
  | false =>
   simp only [Bool.false_eq_true, if_false]
   obtain ⟨⟨v, a1, a2, a3, a4, a5⟩, b, c, d⟩ := push_ok q (with1 m x.toNat) (w ++ [x]) hq'
   have h1 : ∀ k, m k = true → with1 m x.toNat k = true := fun k hk => by simp [with1, hk]
   have hxs : with1 m x.toNat x.toNat = true := by simp [with1]
   refine ⟨⟨x :: v, by rw [a1]; simp, fun y hy => ?_, fun y hy => ?_, fun k hkF hk => ?_, ?_⟩, fun k hk => b k (h1 k hk), fun y hy => ?_, fun k hk => ?_⟩
   ·rcases List.mem_cons.1 hy with rfl | hy
    ·exact hx
    ·exact a2 y hy
   ·rcases List.mem_cons.1 hy with rfl | hy
    ·exact b _ hxs
    ·exact a3 y hy
   ·rcases a4 k hkF hk with h | h
    ·simp only [with1, Bool.or_eq_true, decide_eq_true_eq] at h
     rcases h with h | h
     ·exact .inl h
     ·exact .inr (by simp only [List.mem_cons]; left; omega)
    ·exact .inr (by simp [h])
   ·have := pop_with1 hm (n := F) (by omega)
    simp only [List.length_cons]; omega
   ·rcases List.mem_cons.1 hy with rfl | hy
    ·exact b _ hxs
    ·exact c y hy
   ·rcases d k hk with h | h
    ·simp only [with1, Bool.or_eq_true, decide_eq_true_eq] at h
     rcases h with h | h
     ·exact .inl h
     ·exact .inr (by simp only [List.mem_cons]; left; omega)
    ·exact .inr (by simp [h])
theorem push_L2 {F : Nat} (hF : F ≤ 1000) {q : List Int} (hq : InF F q) (hql : q.length ≤ 1000) {N i : Nat} (hi : i ≤ q.length) (hN : q.length - i < N) : ∀ (m : Nat → Bool) (w : List Int), w.length + (q.length - i) ≤ 5000 →
  impl_ReachedFrom_L2 q N i (rowOf F m) w = some (rowOf F (push (q.drop i) m w).1, (push (q.drop i) m w).2) := by
 refine loop_ind q.length (fun N i => ∀ (m : Nat → Bool) (w : List Int), w.length + (q.length - i) ≤ 5000 → impl_ReachedFrom_L2 q N i (rowOf F m) w = some (rowOf F (push (q.drop i) m w).1, (push (q.drop i) m w).2)) ?_ ?_ hi hN
 ·intro n m w _
  rw [impl_ReachedFrom_L2, if_neg (by simp [len_def]), List.drop_length]; rfl
 ·intro n i hi ih m w hw
  obtain ⟨x, hx, hxm⟩ := at_lt hi
  have hxi := hq x hxm
  obtain ⟨j, rfl⟩ := Int.eq_ofNat_of_zero_le hxi.1
  rw [impl_ReachedFrom_L2, if_pos (by simp [len_def]; omega), get_lt hx]
  simp only [Option.bind_some]
  rw [get_lt (rowOf_get (by omega)), w_id (n := (i : Int) + 1) (by omega) (by omega), show ((i : Int) + 1) = ((i + 1 : Nat) : Int) by omega, drop_cons hx]
  simp only [Option.bind_some, push, Int.toNat_natCast]
  cases hm : m j with
  | true => simp only [Bool.not_true, Bool.false_eq_true, if_false, if_true, Option.bind_some]; exact ih m w (by omega)
  | false =>
   simp only [Bool.not_false, if_true, Bool.false_eq_true, if_false]
   rw [app_ok _ _ 8 (by simp; omega) (by simp; omega), row_put]
   simp only [Option.bind_some]
   exact ih _ _ (by simp; omega)
end RC

