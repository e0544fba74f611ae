import Derived.Test.YtgcghdgbahfcjaaGreatGPlainAToHMF
import Derived.Test.YtgcghdgbahfcjaaGreatHMG
import Derived.Test.YtgcghdgbahfcjaaGreatHBDefs
import Derived.Test.YtgcghdgbahfcjaaGreatRADefs

namespace RC
open Go
end RC



namespace RC
open Go
def cat (h : List Cell) (j : Nat) : Cell := (h[j]?).getD ⟨0, 0, []⟩
def ct (h : List Cell) (j : Nat) : Int := (cat h j).count
end RC



namespace RC
open Go
def gg (h : List Cell) (fr : Nat → Bool) (cn : Nat → Int) (j : Nat) : Cell := if fr j then ⟨0, 0, []⟩ else ⟨cn j, (cat h j).tag, (cat h j).fields⟩
end RC



namespace RC
open Go
section
variable {h g : List Cell} {W : List Int} {fr : Nat → Bool} {cn : Nat → Int}
end
end RC



namespace RC
open Go
def fst (h : List Cell) : Nat → Nat → Nat
 | 0, i => i
 | k + 1, i => if ct h i = 0 then i else fst h k (i + 1)
end RC



namespace RC
open Go
def mk (m : Nat → Bool) (n i : Nat) : List Nat := (List.range' i (n - i)).filter m
theorem mk_end (m : Nat → Bool) (n : Nat) : mk m n n = [] := by simp [mk]
theorem mk_step {m : Nat → Bool} {n i : Nat} (hi : i < n) : mk m n i = (if m i then [i] else []) ++ mk m n (i + 1) := by
 unfold mk
 obtain ⟨k, hk⟩ : ∃ k, n - i = k + 1 := ⟨n - i - 1, by omega⟩
 rw [hk, List.range'_succ, List.filter_cons, show n - (i + 1) = k by omega]
 cases m i <;> simp
theorem mk_len (m : Nat → Bool) (n i : Nat) : (mk m n i).length ≤ n - i := by
 have := List.length_filter_le m (List.range' i (n - i))
 simpa [mk] using this
theorem nats_append (a b : List Nat) : nats (a ++ b) = nats a ++ nats b := by simp [nats]
theorem nats_len (a : List Nat) : (nats a).length = a.length := by simp [nats]
theorem impl_indices_L1 {m : Nat → Bool} {n0 : Nat} (hl : n0 ≤ 1048576) {N i : Nat} (hi : i ≤ n0) (hN : n0 - i < N) : ∀ acc : List Nat, acc.length ≤ i → impl_indicesOf_L1 (rowOf n0 m) N i (nats acc) = some (nats (acc ++ mk m n0 i)) := by
 refine loop_ind n0 (fun N i => ∀ acc : List Nat, acc.length ≤ i → impl_indicesOf_L1 (rowOf n0 m) N i (nats acc) = some (nats (acc ++ mk m n0 i))) ?_ ?_ hi hN
 ·intro n acc _
  rw [impl_indicesOf_L1, if_neg (by simp [len_def, rowOf_len]), mk_end, List.append_nil]
 ·intro n i hi ih acc ha
  rw [impl_indicesOf_L1, if_pos (by simp [len_def, rowOf_len]; omega), get_lt (rowOf_get hi)]
  simp only [Option.bind_some]
  rw [w_id (by omega) (by omega), show ((i : Int) + 1) = ((i + 1 : Nat) : Int) by omega, mk_step hi]
  cases m i with
  | false => simp only [Bool.false_eq_true, if_false, Option.bind_some, List.nil_append]; exact ih acc (by omega)
  | true =>
   simp only [if_true]
   rw [app_ok _ _ 8 (by rw [nats_len]; simp; omega) (by rw [nats_len]; simp; omega)]
   simp only [Option.bind_some]
   have := ih (acc ++ [i]) (by simp; omega)
   rw [nats_append, List.append_assoc] at this
   exact this
end RC



namespace RC
open Go
def ramp : Nat → Nat → List Int
 | _, 0 => []
 | k, n + 1 => (k : Int) :: ramp (k + 1) n
theorem ramp_len : ∀ (n k : Nat), (ramp k n).length = n
 | 0, _ => rfl
 | n + 1, k => by simp [ramp, ramp_len n]
theorem get_mid {α : Type} (A B : List α) (x : α) : Sh.get (A ++ x :: B) (A.length : Int) = some x := get_lt (by simp)
theorem put_mid {α : Type} (A B : List α) (x y : α) : Sh.put (A ++ x :: B) (A.length : Int) y = A ++ y :: B := by rw [put_nat]; simp
theorem markIntS_L1_eq : ∀ (B A : List Int) (k n : Nat), B.length < n → A.length + B.length ≤ 2000000 → k + B.length ≤ 100000000 →
  laws_markIntS_L1 n (k : Int) (A.length : Int) (A ++ B) = some (((k + B.length : Nat) : Int), A ++ ramp k B.length)
 | [], A, k, n, hn, _, _ => by
  obtain ⟨n, rfl⟩ : ∃ m, n = m + 1 := ⟨n - 1, by simp at hn; omega⟩
  rw [laws_markIntS_L1, if_neg (by simp [len_def])]; simp [ramp]
 | b :: B, A, k, n, hn, h1, h2 => by
  simp only [List.length_cons] at hn h1 h2 ⊢
  obtain ⟨n, rfl⟩ : ∃ m, n = m + 1 := ⟨n - 1, by omega⟩
  have ih := markIntS_L1_eq B (A ++ [(k : Int)]) (k + 1) n (by omega) (by simp; omega) (by omega)
  rw [laws_markIntS_L1, if_pos (by simp [len_def]; omega), get_mid, put_mid, w_id (by omega) (by omega), w_id (by omega) (by omega)]
  simp only [Option.bind_some]
  rw [List.length_append, List.append_assoc, List.append_assoc] at ih
  simp only [List.length_cons, List.length_nil, List.cons_append, List.nil_append] at ih
  have e1 : ((A.length : Int) + 1) = ((A.length + (0 + 1) : Nat) : Int) := by omega
  have e2 : ((k : Int) + 1) = ((k + 1 : Nat) : Int) := by omega
  rw [e1, e2, ih]
  simp only [ramp, show k + 1 + B.length = k + (B.length + 1) by omega]
theorem markIntS_eq {l : List Int} (hl : l.length ≤ 1048576) {k : Nat} (hk : k ≤ 50000000) {N : Nat} (hN : 2000000 ≤ N) : laws_markIntS N l (k : Int) = some (((k + l.length : Nat) : Int), ramp k l.length) := by
 unfold laws_markIntS
 have := markIntS_L1_eq l [] k N (by omega) (by simp; omega) (by omega)
 rw [List.length_nil, List.nil_append, List.nil_append] at this
 rw [show (0 : Int) = ((0 : Nat) : Int) from rfl, this]; rfl
theorem heldIntS_L1_eq : ∀ (m : Nat) (A : List Int) (k n : Nat), m < n → A.length + m ≤ 2000000 → k + m ≤ 100000000 →
  laws_heldIntS_L1 (A ++ ramp k m) n (k : Int) (A.length : Int) = some (Sum.inr (((k + m : Nat) : Int)))
 | 0, A, k, n, hn, _, _ => by
  obtain ⟨n, rfl⟩ : ∃ m, n = m + 1 := ⟨n - 1, by omega⟩
  rw [laws_heldIntS_L1, if_neg (by simp [len_def, ramp])]; simp
 | m + 1, A, k, n, hn, h1, h2 => by
  obtain ⟨n, rfl⟩ : ∃ m, n = m + 1 := ⟨n - 1, by omega⟩
  have ih := heldIntS_L1_eq m (A ++ [(k : Int)]) (k + 1) n (by omega) (by simp; omega) (by omega)
  rw [laws_heldIntS_L1, if_pos (by simp [len_def, ramp_len]; omega)]
  simp only [ramp]
  rw [get_mid, w_id (by omega) (by omega), w_id (by omega) (by omega)]
  simp only [Option.bind_some, decide_true, Bool.not_true, Bool.false_eq_true, if_false]
  rw [List.length_append, List.append_assoc] at ih
  simp only [List.length_cons, List.length_nil, List.cons_append, List.nil_append] at ih
  have e1 : ((A.length : Int) + 1) = ((A.length + (0 + 1) : Nat) : Int) := by omega
  have e2 : ((k : Int) + 1) = ((k + 1 : Nat) : Int) := by omega
  rw [e1, e2, ih]
  simp only [show k + 1 + m = k + (m + 1) by omega]
theorem heldIntS_eq {m : Nat} (hl : m ≤ 1048576) {k : Nat} (hk : k ≤ 50000000) {N : Nat} (hN : 2000000 ≤ N) : laws_heldIntS N (ramp k m) (k : Int) = some (((k + m : Nat) : Int)) := by
 unfold laws_heldIntS
 have := heldIntS_L1_eq m [] k N (by omega) (by simp; omega) (by omega)
 rw [List.length_nil, List.nil_append] at this
 rw [show (0 : Int) = ((0 : Nat) : Int) from rfl, this]; rfl
def csz (h : List Cell) : Nat := 2 * h.length + fsum h
def markC : Nat → List Cell → List Cell
 | _, [] => []
 | k, c :: r => ⟨(k : Int), ((k + 1 : Nat) : Int), ramp (k + 2) c.fields.length⟩ :: markC (k + 2 + c.fields.length) r
theorem csz_cons (c : Cell) (r : List Cell) : csz (c :: r) = 2 + c.fields.length + csz r := by simp [csz, fsum]; omega
theorem markCellS_L1_eq {N : Nat} (hN : 2000000 ≤ N) : ∀ (B A : List Cell) (k n : Nat), B.length < n → A.length + B.length ≤ 2000000 → (∀ c ∈ B, c.fields.length ≤ 1048576) → k + csz B ≤ 40000000 →
  laws_markCellS_L1 N n (k : Int) (A.length : Int) (A ++ B) = some (((k + csz B : Nat) : Int), A ++ markC k B)
 | [], A, k, n, hn, _, _, _ => by
  obtain ⟨n, rfl⟩ : ∃ m, n = m + 1 := ⟨n - 1, by simp at hn; omega⟩
  rw [laws_markCellS_L1, if_neg (by simp [len_def])]; simp [markC, csz, fsum]
 | c :: B, A, k, n, hn, h1, hf, h2 => by
  have hfc := hf c (by simp)
  rw [csz_cons] at h2 ⊢
  simp only [List.length_cons] at hn h1
  obtain ⟨n, rfl⟩ : ∃ m, n = m + 1 := ⟨n - 1, by omega⟩
  have ih := markCellS_L1_eq hN B (A ++ [⟨(k : Int), ((k + 1 : Nat) : Int), ramp (k + 2) c.fields.length⟩]) (k + 2 + c.fields.length) n (by omega) (by simp; omega) (fun c hc => hf c (by simp [hc])) (by omega)
  have e2 : ((k : Int) + 1) = ((k + 1 : Nat) : Int) := by omega
  have e3 : (((k + 1 : Nat) : Int) + 1) = ((k + 2 : Nat) : Int) := by omega
  rw [laws_markCellS_L1, if_pos (by simp [len_def]; omega), get_mid]
  simp only [Option.bind_some, put_mid, get_mid]
  rw [w_id (n := (k : Int) + 1) (by omega) (by omega), e2, w_id (n := ((k + 1 : Nat) : Int) + 1) (by omega) (by omega), e3, markIntS_eq hfc (by omega) hN]
  simp only [Option.bind_some]
  rw [w_id (by omega) (by omega)]
  rw [List.length_append, List.append_assoc, List.append_assoc] at ih
  simp only [List.length_cons, List.length_nil, List.cons_append, List.nil_append] at ih
  have e1 : ((A.length : Int) + 1) = ((A.length + (0 + 1) : Nat) : Int) := by omega
  rw [e1, ih]
  simp only [markC, show k + 2 + c.fields.length + csz B = k + (2 + c.fields.length + csz B) by omega]
theorem csz_le {h : List Cell} (H : Hp h) : csz h ≤ 2097152 := by have := H.size; unfold hsize at this; unfold csz; omega
theorem markCellS_eq {h : List Cell} (H : Hp h) {k : Nat} (hk : k ≤ 30000000) {N : Nat} (hN : 2000000 ≤ N) : laws_markCellS N h (k : Int) = some (((k + csz h : Nat) : Int), markC k h) := by
 unfold laws_markCellS
 have hl := H.len
 have := markCellS_L1_eq hN h [] k N (by omega) (by simp; omega) (fun c hc => H.flen hc) (by have := csz_le H; omega)
 rw [List.length_nil, List.nil_append, List.nil_append] at this
 rw [show (0 : Int) = ((0 : Nat) : Int) from rfl, this]; rfl
end RC

