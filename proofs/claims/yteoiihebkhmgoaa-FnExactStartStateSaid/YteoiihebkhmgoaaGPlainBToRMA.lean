import Derived.Test.YteoiihebkhmgoaaGPlainAToHMF
import Derived.Test.YteoiihebkhmgoaaHMG
import Derived.Test.YteoiihebkhmgoaaGHADefsToSTDefs

namespace RC
open Go
end RC



namespace RC
open Go
def cat (h : List Cell) (j : Nat) : Cell := (h[j]?).getD ⟨0, 0, []⟩
def ct (h : List Cell) (j : Nat) : Int := (cat h j).count
end RC



namespace RC
open Go
def gg (h : List Cell) (fr : Nat → Bool) (cn : Nat → Int) (j : Nat) : Cell := if fr j then ⟨0, 0, []⟩ else ⟨cn j, (cat h j).tag, (cat h j).fields⟩
def rst (h : List Cell) (fr : Nat → Bool) : Nat → Nat
 | 0 => 0
 | n + 1 => rst h fr n + if fr n then 0 else (fl h n).length
end RC



namespace RC
open Go
section
variable {h g : List Cell} {W : List Int} {fr : Nat → Bool} {cn : Nat → Int}
end
end RC



namespace RC
open Go
def fst (h : List Cell) : Nat → Nat → Nat
 | 0, i => i
 | k + 1, i => if ct h i = 0 then i else fst h k (i + 1)
end RC



namespace RC
open Go
def mk (m : Nat → Bool) (n i : Nat) : List Nat := (List.range' i (n - i)).filter m
end RC



namespace RC
open Go
def ramp : Nat → Nat → List Int
 | _, 0 => []
 | k, n + 1 => (k : Int) :: ramp (k + 1) n
theorem ramp_len : ∀ (n k : Nat), (ramp k n).length = n
 | 0, _ => rfl
 | n + 1, k => by simp [ramp, ramp_len n]
theorem get_mid {α : Type} (A B : List α) (x : α) : Sh.get (A ++ x :: B) (A.length : Int) = some x := get_lt (by simp)
theorem put_mid {α : Type} (A B : List α) (x y : α) : Sh.put (A ++ x :: B) (A.length : Int) y = A ++ y :: B := by rw [put_nat]; simp
theorem markIntS_L1_eq : ∀ (B A : List Int) (k n : Nat), B.length < n → A.length + B.length ≤ 2000000 → k + B.length ≤ 100000000 →
  laws_markIntS_L1 n (k : Int) (A.length : Int) (A ++ B) = some (((k + B.length : Nat) : Int), A ++ ramp k B.length)
 | [], A, k, n, hn, _, _ => by
  obtain ⟨n, rfl⟩ : ∃ m, n = m + 1 := ⟨n - 1, by simp at hn; omega⟩
  rw [laws_markIntS_L1, if_neg (by simp [len_def])]; simp [ramp]
 | b :: B, A, k, n, hn, h1, h2 => by
  simp only [List.length_cons] at hn h1 h2 ⊢
  obtain ⟨n, rfl⟩ : ∃ m, n = m + 1 := ⟨n - 1, by omega⟩
  have ih := markIntS_L1_eq B (A ++ [(k : Int)]) (k + 1) n (by omega) (by simp; omega) (by omega)
  rw [laws_markIntS_L1, if_pos (by simp [len_def]; omega), get_mid, put_mid, w_id (by omega) (by omega), w_id (by omega) (by omega)]
  simp only [Option.bind_some]
  rw [List.length_append, List.append_assoc, List.append_assoc] at ih
  simp only [List.length_cons, List.length_nil, List.cons_append, List.nil_append] at ih
  have e1 : ((A.length : Int) + 1) = ((A.length + (0 + 1) : Nat) : Int) := by omega
  have e2 : ((k : Int) + 1) = ((k + 1 : Nat) : Int) := by omega
  rw [e1, e2, ih]
  simp only [ramp, show k + 1 + B.length = k + (B.length + 1) by omega]
theorem markIntS_eq {l : List Int} (hl : l.length ≤ 1048576) {k : Nat} (hk : k ≤ 50000000) {N : Nat} (hN : 2000000 ≤ N) : laws_markIntS N l (k : Int) = some (((k + l.length : Nat) : Int), ramp k l.length) := by
 unfold laws_markIntS
 have := markIntS_L1_eq l [] k N (by omega) (by simp; omega) (by omega)
 rw [List.length_nil, List.nil_append, List.nil_append] at this
 rw [show (0 : Int) = ((0 : Nat) : Int) from rfl, this]; rfl
theorem heldIntS_L1_eq : ∀ (m : Nat) (A : List Int) (k n : Nat), m < n → A.length + m ≤ 2000000 → k + m ≤ 100000000 →
  laws_heldIntS_L1 (A ++ ramp k m) n (k : Int) (A.length : Int) = some (Sum.inr (((k + m : Nat) : Int)))
 | 0, A, k, n, hn, _, _ => by
  obtain ⟨n, rfl⟩ : ∃ m, n = m + 1 := ⟨n - 1, by omega⟩
  rw [laws_heldIntS_L1, if_neg (by simp [len_def, ramp])]; simp
 | m + 1, A, k, n, hn, h1, h2 => by
  obtain ⟨n, rfl⟩ : ∃ m, n = m + 1 := ⟨n - 1, by omega⟩
  have ih := heldIntS_L1_eq m (A ++ [(k : Int)]) (k + 1) n (by omega) (by simp; omega) (by omega)
  rw [laws_heldIntS_L1, if_pos (by simp [len_def, ramp_len]; omega)]
  simp only [ramp]
  rw [get_mid, w_id (by omega) (by omega), w_id (by omega) (by omega)]
  simp only [Option.bind_some, decide_true, Bool.not_true, Bool.false_eq_true, if_false]
  rw [List.length_append, List.append_assoc] at ih
  simp only [List.length_cons, List.length_nil, List.cons_append, List.nil_append] at ih
  have e1 : ((A.length : Int) + 1) = ((A.length + (0 + 1) : Nat) : Int) := by omega
  have e2 : ((k : Int) + 1) = ((k + 1 : Nat) : Int) := by omega
  rw [e1, e2, ih]
  simp only [show k + 1 + m = k + (m + 1) by omega]
theorem heldIntS_eq {m : Nat} (hl : m ≤ 1048576) {k : Nat} (hk : k ≤ 50000000) {N : Nat} (hN : 2000000 ≤ N) : laws_heldIntS N (ramp k m) (k : Int) = some (((k + m : Nat) : Int)) := by
 unfold laws_heldIntS
 have := heldIntS_L1_eq m [] k N (by omega) (by simp; omega) (by omega)
 rw [List.length_nil, List.nil_append] at this
 rw [show (0 : Int) = ((0 : Nat) : Int) from rfl, this]; rfl
end RC

