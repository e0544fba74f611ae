import Derived.Test.YtpahalfiiahddaaGPlainAToUGDefs
namespace RC
open Go
def rowOf {α : Type} (n : Nat) (f : Nat → α) : List α := (List.range n).map f
theorem rowOf_len {α : Type} {n : Nat} {f : Nat → α} : (rowOf n f).length = n := by simp [rowOf]
theorem rowOf_get {α : Type} {n : Nat} {f : Nat → α} {j : Nat} (h : j < n) : (rowOf n f)[j]? = some (f j) := by simp [rowOf, h]
theorem rowOf_congr {α : Type} {n : Nat} {f g : Nat → α} (h : ∀ j, j < n → f j = g j) : rowOf n f = rowOf n g := List.map_congr_left fun j hj => h j (List.mem_range.1 hj)
theorem rowOf_set {α : Type} {n : Nat} {f : Nat → α} {j : Nat} {v : α} : (rowOf n f).set j v = rowOf n (fun k => if k = j then v else f k) := by
 apply List.ext_getElem?
 intro k
 rw [List.getElem?_set]
 by_cases hk : k < n
 ·rw [rowOf_get hk, rowOf_get hk, rowOf_len]
  by_cases e : j = k
  ·subst e; simp [hk]
  ·have e' : ¬ k = j := fun h => e h.symm
   simp [e, e']
 ·rw [List.getElem?_eq_none (by rw [rowOf_len]; omega), List.getElem?_eq_none (by rw [rowOf_len]; omega), rowOf_len]
  by_cases e : j = k
  ·subst e; simp [hk]
  ·simp [e]
def hits (h : List Cell) (j : Nat) (w : Int) : Bool := liveW h w && decide ((w - 1000).toNat = j)
def cnt (h : List Cell) (ws : List Int) (j : Nat) : Nat := ws.countP (hits h j)
theorem cnt_nil (h : List Cell) (j : Nat) : cnt h [] j = 0 := rfl
def nats (l : List Nat) : List Int := List.map (fun n : Nat => (n : Int)) l
end RC

