/- Plain tools for the printed functions. -/
import Derived.Test.YtcpedchmkhlpnaaEnc
namespace RC
open Go

theorem w_id {n : Int} (h1 : -9223372036854775808 ≤ n) (h2 : n ≤ 9223372036854775807) : Sh.w n = n := Abs.wrap_i64 h1 h2
theorem len_def {α : Type} (l : List α) : Sh.len l = (l.length : Int) := rfl
theorem get_nat {α : Type} (l : List α) (i : Nat) : Sh.get l (i : Int) = l[i]? := by
  unfold Sh.get; rw [if_pos (Int.natCast_nonneg i)]; simp
theorem get_lt {α : Type} {l : List α} {i : Nat} {x : α} (h : l[i]? = some x) : Sh.get l (i : Int) = some x := by rw [get_nat, h]
theorem get_pos {α : Type} {l : List α} {j : Int} (h0 : 0 ≤ j) (h1 : j < l.length) : ∃ x, Sh.get l j = some x ∧ l[j.toNat]? = some x := by
  have h : l[j.toNat]? = some (l[j.toNat]'(by omega)) := List.getElem?_eq_getElem (by omega)
  exact ⟨_, by unfold Sh.get; rw [if_pos h0, h], h⟩
theorem get_pos' {α : Type} {l : List α} {j : Int} (h0 : 0 ≤ j) : Sh.get l j = l[j.toNat]? := by unfold Sh.get; rw [if_pos h0]
theorem put_nat {α : Type} (l : List α) (i : Nat) (x : α) : Sh.put l (i : Int) x = l.set i x := by simp [Sh.put]
theorem mk_ok {α : Type} (x : α) (n b : Nat) (h : n * b ≤ 281474976710656) (h2 : n ≤ 9223372036854775807) : Sh.mk x (n : Int) b = some (List.replicate n x) := by
  unfold Sh.mk
  rw [if_pos ⟨by omega, by rw [← Int.natCast_mul]; omega, by omega⟩]; simp
theorem app_ok {α : Type} (l m : List α) (b : Nat) (h : (l.length + m.length) * b ≤ 140737488355328) (h2 : l.length + m.length ≤ 9223372036854775807) : Sh.app l m b = some (l ++ m) := by
  unfold Sh.app; rw [if_pos ⟨h, h2⟩]
theorem hi_ok {α : Type} {l : List α} {j : Nat} (h : j ≤ l.length) : Sh.hi l (j : Int) = some (l.take j) := by
  unfold Sh.hi; rw [if_pos ⟨by omega, by omega⟩]; simp

/-- A loop over the places of a list: backwards, over the fuel. -/
theorem loop_ind (len : Nat) (P : Nat → Nat → Prop) (h0 : ∀ n, P (n + 1) len) (hs : ∀ n i, i < len → P n (i + 1) → P (n + 1) i) : ∀ {N i : Nat}, i ≤ len → len - i < N → P N i := by
  intro N i hi hN
  obtain ⟨k, hk⟩ : ∃ k, len - i = k := ⟨_, rfl⟩
  induction k generalizing N i with
  | zero =>
    obtain ⟨n, rfl⟩ : ∃ n, N = n + 1 := ⟨N - 1, by omega⟩
    have : i = len := by omega
    subst this; exact h0 n
  | succ k ih =>
    obtain ⟨n, rfl⟩ : ∃ n, N = n + 1 := ⟨N - 1, by omega⟩
    exact hs n i (by omega) (ih (by omega) (by omega) (by omega))

theorem at_lt {α : Type} {l : List α} {i : Nat} (h : i < l.length) : ∃ x, l[i]? = some x ∧ x ∈ l := ⟨l[i], List.getElem?_eq_getElem h, List.getElem_mem h⟩
theorem take_snoc {α : Type} {l : List α} {j : Nat} {x : α} (h : l[j]? = some x) : l.take (j + 1) = l.take j ++ [x] := by rw [List.take_add_one, h]; rfl
theorem drop_cons {α : Type} {l : List α} {j : Nat} {x : α} (h : l[j]? = some x) : l.drop j = x :: l.drop (j + 1) := by
  obtain ⟨hj, rfl⟩ := List.getElem?_eq_some_iff.1 h
  exact List.drop_eq_getElem_cons hj

/-! ### Heaps -/

def fsum (h : List Cell) : Nat := (h.map fun c => c.fields.length).sum
def hsize (h : List Cell) : Nat := h.length + fsum h

abbrev HeapIn : List Cell → Prop := ListIn CellIn

/-- A heap that is not too great. -/
structure Hp (h : List Cell) : Prop where
  size : hsize h ≤ 1048576
  cells : ∀ c ∈ h, CellIn c

theorem fsum_mem {h : List Cell} {c : Cell} (hc : c ∈ h) : c.fields.length ≤ fsum h := by
  induction h with
  | nil => cases hc
  | cons d h ih =>
    simp only [fsum, List.map_cons, List.sum_cons] at ih ⊢
    rcases List.mem_cons.1 hc with rfl | hc
    · omega
    · have := ih hc; omega
theorem Hp.len {h : List Cell} (H : Hp h) : h.length ≤ 1048576 := by have := H.size; unfold hsize at this; omega
theorem Hp.flen {h : List Cell} (H : Hp h) {c : Cell} (hc : c ∈ h) : c.fields.length ≤ 1048576 := by have := H.size; have := fsum_mem hc; unfold hsize at *; omega
theorem fsum_append (a b : List Cell) : fsum (a ++ b) = fsum a + fsum b := by simp [fsum]
theorem fsum_take_le (h : List Cell) (i : Nat) : fsum (h.take i) ≤ fsum h := by
  have := fsum_append (h.take i) (h.drop i)
  rw [List.take_append_drop] at this; omega
theorem fsum_drop_le (h : List Cell) (i : Nat) : fsum (h.drop i) ≤ fsum h := by
  have := fsum_append (h.take i) (h.drop i)
  rw [List.take_append_drop] at this; omega

end RC
