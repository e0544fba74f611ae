import Derived.Test.YtobjlimoekffaaaGEncToEncB
import Derived.Test.YtobjlimoekffaaaGEncCToLRDefs

namespace RC
open Go
theorem w_id {n : Int} (h1 : -9223372036854775808 ≤ n) (h2 : n ≤ 9223372036854775807) : Sh.w n = n := Abs.wrap_i64 h1 h2
theorem len_def {α : Type} (l : List α) : Sh.len l = (l.length : Int) := rfl
theorem get_nat {α : Type} (l : List α) (i : Nat) : Sh.get l (i : Int) = l[i]? := by
 unfold Sh.get; rw [if_pos (Int.natCast_nonneg i)]; simp
theorem get_lt {α : Type} {l : List α} {i : Nat} {x : α} (h : l[i]? = some x) : Sh.get l (i : Int) = some x := by rw [get_nat, h]
theorem get_pos {α : Type} {l : List α} {j : Int} (h0 : 0 ≤ j) (h1 : j < l.length) : ∃ x, Sh.get l j = some x ∧ l[j.toNat]? = some x := by
 have h : l[j.toNat]? = some (l[j.toNat]'(by omega)) := List.getElem?_eq_getElem (by omega)
 exact ⟨_, by unfold Sh.get; rw [if_pos h0, h], h⟩
theorem put_nat {α : Type} (l : List α) (i : Nat) (x : α) : Sh.put l (i : Int) x = l.set i x := by simp [Sh.put]
theorem mk_ok {α : Type} (x : α) (n b : Nat) (h : n * b ≤ 281474976710656) (h2 : n ≤ 9223372036854775807) : Sh.mk x (n : Int) b = some (List.replicate n x) := by
 unfold Sh.mk
 rw [if_pos ⟨by omega, by rw [← Int.natCast_mul]; omega, by omega⟩]; simp
theorem app_ok {α : Type} (l m : List α) (b : Nat) (h : (l.length + m.length) * b ≤ 140737488355328) (h2 : l.length + m.length ≤ 9223372036854775807) : Sh.app l m b = some (l ++ m) := by
 unfold Sh.app; rw [if_pos ⟨h, h2⟩]
theorem loop_ind (len : Nat) (P : Nat → Nat → Prop) (h0 : ∀ n, P (n + 1) len) (hs : ∀ n i, i < len → P n (i + 1) → P (n + 1) i) : ∀ {N i : Nat}, i ≤ len → len - i < N → P N i := by
 intro N i hi hN
 obtain ⟨k, hk⟩ : ∃ k, len - i = k := ⟨_, rfl⟩
 induction k generalizing N i with
 | zero =>
  obtain ⟨n, rfl⟩ : ∃ n, N = n + 1 := ⟨N - 1, by omega⟩
  have : i = len := by omega
  subst this; exact h0 n
 | succ k ih =>
  obtain ⟨n, rfl⟩ : ∃ n, N = n + 1 := ⟨N - 1, by omega⟩
  exact hs n i (by omega) (ih (by omega) (by omega) (by omega))
theorem at_lt {α : Type} {l : List α} {i : Nat} (h : i < l.length) : ∃ x, l[i]? = some x ∧ x ∈ l := ⟨l[i], List.getElem?_eq_getElem h, List.getElem_mem h⟩
theorem take_snoc {α : Type} {l : List α} {j : Nat} {x : α} (h : l[j]? = some x) : l.take (j + 1) = l.take j ++ [x] := by rw [List.take_add_one, h]; rfl
theorem drop_cons {α : Type} {l : List α} {j : Nat} {x : α} (h : l[j]? = some x) : l.drop j = x :: l.drop (j + 1) := by
 obtain ⟨hj, rfl⟩ := List.getElem?_eq_some_iff.1 h
 exact List.drop_eq_getElem_cons hj
def fsum (h : List Cell) : Nat := (h.map fun c => c.fields.length).sum
def hsize (h : List Cell) : Nat := h.length + fsum h
end RC


namespace RC
open Go
theorem szIntS_eq {l : List Int} {left : Int} (h0 : 0 ≤ left) (h1 : left ≤ 1048576) (hl : l.length ≤ 9223372036854775807) : laws_szIntS l left = some (if left - l.length < 0 then -1 else left - l.length) := by
 unfold laws_szIntS
 rw [len_def, w_id (by omega) (by omega)]
 by_cases h : left - l.length < 0 <;> simp [h]
theorem toIntS_L1_eq {l : List Int} (hl : l.length ≤ 1048576) {N i : Nat} (hi : i ≤ l.length) (hN : l.length - i < N) : ∀ m : List Int, m.length = l.length → m.take i = l.take i → laws_toIntS_L1 l N i m = some l := by
 refine loop_ind l.length (fun N i => ∀ m : List Int, m.length = l.length → m.take i = l.take i → laws_toIntS_L1 l N i m = some l) ?_ ?_ hi hN
 ·intro n m hm ht
  rw [laws_toIntS_L1, if_neg (by simp [len_def])]
  rw [List.take_of_length_le (by omega), List.take_length] at ht
  rw [ht]
 ·intro n i hi ih m hm ht
  obtain ⟨x, hx, _⟩ := at_lt hi
  obtain ⟨y, hy, _⟩ := at_lt (l := m) (i := i) (by omega)
  rw [laws_toIntS_L1, if_pos (by simp [len_def]; omega), get_lt hx]
  simp only [Option.bind_some]
  rw [get_lt hy]
  simp only [Option.bind_some]
  rw [w_id (by omega) (by omega), put_nat, show ((i : Int) + 1) = ((i + 1 : Nat) : Int) by omega]
  refine ih _ (by simp [hm]) ?_
  rw [take_snoc hx, take_snoc (x := x) (by rw [List.getElem?_set]; simp; omega), List.take_set_of_le (Nat.le_refl _), ht]
theorem toIntS_eq {l : List Int} (hl : l.length ≤ 1048576) {N : Nat} (hN : 2000000 ≤ N) : laws_toIntS N l = some l := by
 unfold laws_toIntS
 rw [len_def, mk_ok 0 l.length 8 (by omega) (by omega)]
 simp only [Option.bind_some]
 have := toIntS_L1_eq hl (Nat.zero_le _) (by omega : l.length - 0 < N) (List.replicate l.length 0) (by simp) (by simp)
 rw [show ((0 : Nat) : Int) = 0 from rfl] at this
 rw [this]; rfl
theorem eqIntS_L1_eq {l : List Int} (hl : l.length ≤ 1048576) {N i : Nat} (hi : i ≤ l.length) (hN : l.length - i < N) : laws_eqIntS_L1 l l N i = some (Sum.inr ()) := by
 refine loop_ind l.length (fun N i => laws_eqIntS_L1 l l N i = some (Sum.inr ())) ?_ ?_ hi hN
 ·intro n
  rw [laws_eqIntS_L1, if_neg (by simp [len_def])]
 ·intro n i hi ih
  obtain ⟨x, hx, _⟩ := at_lt hi
  rw [laws_eqIntS_L1, if_pos (by simp [len_def]; omega), get_lt hx]
  simp only [Option.bind_some]
  rw [w_id (by omega) (by omega), show ((i : Int) + 1) = ((i + 1 : Nat) : Int) by omega]
  simpa using ih
theorem eqIntS_eq {l : List Int} (hl : l.length ≤ 1048576) {N : Nat} (hN : 2000000 ≤ N) : laws_eqIntS N l l = some true := by
 unfold laws_eqIntS
 have := eqIntS_L1_eq hl (Nat.zero_le _) (by omega : l.length - 0 < N)
 rw [show ((0 : Nat) : Int) = 0 from rfl] at this
 simp [this]
end RC


namespace RC
open Go
def liveW (h : List Cell) (w : Int) : Bool := decide (1000 ≤ w) && (match h[(w - 1000).toNat]? with | some c => decide (0 < c.count) | none => false)
theorem inRange_eq (a b c : Int) : spec_inRange a b c = some (decide (b ≤ a) && decide (a ≤ c)) := by
 unfold spec_inRange
 by_cases h : b ≤ a <;> simp [h]
theorem all_drop {α : Type} {p : α → Bool} {l : List α} {i : Nat} {x : α} (h : l[i]? = some x) : (l.drop i).all p = (p x && (l.drop (i + 1)).all p) := by rw [drop_cons h]; rfl
end RC


namespace RC
open Go
def rowOf {α : Type} (n : Nat) (f : Nat → α) : List α := (List.range n).map f
theorem rowOf_len {α : Type} {n : Nat} {f : Nat → α} : (rowOf n f).length = n := by simp [rowOf]
theorem rowOf_get {α : Type} {n : Nat} {f : Nat → α} {j : Nat} (h : j < n) : (rowOf n f)[j]? = some (f j) := by simp [rowOf, h]
theorem rowOf_congr {α : Type} {n : Nat} {f g : Nat → α} (h : ∀ j, j < n → f j = g j) : rowOf n f = rowOf n g := List.map_congr_left fun j hj => h j (List.mem_range.1 hj)
theorem rowOf_set {α : Type} {n : Nat} {f : Nat → α} {j : Nat} {v : α} : (rowOf n f).set j v = rowOf n (fun k => if k = j then v else f k) := by
 apply List.ext_getElem?
 intro k
 rw [List.getElem?_set]
 by_cases hk : k < n
 ·rw [rowOf_get hk, rowOf_get hk, rowOf_len]
  by_cases e : j = k
  ·subst e; simp [hk]
  ·have e' : ¬ k = j := fun h => e h.symm
   simp [e, e']
 ·rw [List.getElem?_eq_none (by rw [rowOf_len]; omega), List.getElem?_eq_none (by rw [rowOf_len]; omega), rowOf_len]
  by_cases e : j = k
  ·subst e; simp [hk]
  ·simp [e]
theorem rowOf_const {α : Type} (n : Nat) (x : α) : List.replicate n x = rowOf n (fun _ => x) := by
 apply List.ext_getElem?
 intro k
 by_cases hk : k < n
 ·rw [rowOf_get hk]; simp [hk]
 ·rw [List.getElem?_eq_none (by simp; omega), List.getElem?_eq_none (by rw [rowOf_len]; omega)]
def hits (h : List Cell) (j : Nat) (w : Int) : Bool := liveW h w && decide ((w - 1000).toNat = j)
def cnt (h : List Cell) (ws : List Int) (j : Nat) : Nat := ws.countP (hits h j)
theorem cnt_nil (h : List Cell) (j : Nat) : cnt h [] j = 0 := rfl
def nats (l : List Nat) : List Int := List.map (fun n : Nat => (n : Int)) l
end RC


namespace RC
open Go
def ch (h : List Cell) (i j : Nat) : Prop := ∃ c w, h[i]? = some c ∧ w ∈ c.fields ∧ liveW h w = true ∧ (w - 1000).toNat = j
def cntB (m : Nat → Bool) (n : Nat) : Nat := (List.range n).countP m
def J (h : List Cell) (m : Nat → Bool) (many : Nat) : Prop :=
 (∃ rk : Nat → Nat, (∀ j, j < h.length → m j = true → rk j < many) ∧ ∀ i j, m i = true → ch h i j → m j = true ∧ rk j < rk i) ∧ cntB m h.length = many
end RC


namespace RC
open Go
def fl (h : List Cell) (i : Nat) : List Int := match h[i]? with | some c => c.fields | none => []
def unTo (h : List Cell) (p : Nat → Bool) (j : Nat) : Nat → Nat
 | 0 => 0
 | n + 1 => unTo h p j n + if p n then 0 else cnt h (fl h n) j
def un (h : List Cell) (p : Nat → Bool) (j : Nat) : Nat := unTo h p j h.length
end RC


namespace RC
open Go
end RC


namespace RC
open Go
end RC



namespace RC
open Go
end RC



namespace RC
open Go
def cat (h : List Cell) (j : Nat) : Cell := (h[j]?).getD ⟨0, 0, []⟩
def ct (h : List Cell) (j : Nat) : Int := (cat h j).count
theorem copyInts_eq {l : List Int} (hl : l.length ≤ 1048576) : spec_copyInts l = some l := by
 unfold spec_copyInts
 rw [app_ok [] l 8 (by simp; omega) (by simp; omega)]; rfl
end RC



namespace RC
open Go
def gg (h : List Cell) (fr : Nat → Bool) (cn : Nat → Int) (j : Nat) : Cell := if fr j then ⟨0, 0, []⟩ else ⟨cn j, (cat h j).tag, (cat h j).fields⟩
def rst (h : List Cell) (fr : Nat → Bool) : Nat → Nat
 | 0 => 0
 | n + 1 => rst h fr n + if fr n then 0 else (fl h n).length
end RC



namespace RC
open Go
section
variable {h g : List Cell} {W : List Int} {fr : Nat → Bool} {cn : Nat → Int}
end
end RC



namespace RC
open Go
def fst (h : List Cell) : Nat → Nat → Nat
 | 0, i => i
 | k + 1, i => if ct h i = 0 then i else fst h k (i + 1)
end RC



namespace RC
open Go
def mk (m : Nat → Bool) (n i : Nat) : List Nat := (List.range' i (n - i)).filter m
theorem mk_end (m : Nat → Bool) (n : Nat) : mk m n n = [] := by simp [mk]
theorem mk_step {m : Nat → Bool} {n i : Nat} (hi : i < n) : mk m n i = (if m i then [i] else []) ++ mk m n (i + 1) := by
 unfold mk
 obtain ⟨k, hk⟩ : ∃ k, n - i = k + 1 := ⟨n - i - 1, by omega⟩
 rw [hk, List.range'_succ, List.filter_cons, show n - (i + 1) = k by omega]
 cases m i <;> simp
theorem mk_mem {m : Nat → Bool} {n j : Nat} : j ∈ mk m n 0 ↔ j < n ∧ m j = true := by simp [mk]
theorem mk_len (m : Nat → Bool) (n i : Nat) : (mk m n i).length ≤ n - i := by
 have := List.length_filter_le m (List.range' i (n - i))
 simpa [mk] using this
theorem nats_append (a b : List Nat) : nats (a ++ b) = nats a ++ nats b := by simp [nats]
theorem nats_len (a : List Nat) : (nats a).length = a.length := by simp [nats]
theorem impl_indices_L1 {m : Nat → Bool} {n0 : Nat} (hl : n0 ≤ 1048576) {N i : Nat} (hi : i ≤ n0) (hN : n0 - i < N) : ∀ acc : List Nat, acc.length ≤ i → impl_indicesOf_L1 (rowOf n0 m) N i (nats acc) = some (nats (acc ++ mk m n0 i)) := by
 refine loop_ind n0 (fun N i => ∀ acc : List Nat, acc.length ≤ i → impl_indicesOf_L1 (rowOf n0 m) N i (nats acc) = some (nats (acc ++ mk m n0 i))) ?_ ?_ hi hN
 ·intro n acc _
  rw [impl_indicesOf_L1, if_neg (by simp [len_def, rowOf_len]), mk_end, List.append_nil]
 ·intro n i hi ih acc ha
  rw [impl_indicesOf_L1, if_pos (by simp [len_def, rowOf_len]; omega), get_lt (rowOf_get hi)]
  simp only [Option.bind_some]
  rw [w_id (by omega) (by omega), show ((i : Int) + 1) = ((i + 1 : Nat) : Int) by omega, mk_step hi]
  cases m i with
  | false => simp only [Bool.false_eq_true, if_false, Option.bind_some, List.nil_append]; exact ih acc (by omega)
  | true =>
   simp only [if_true]
   rw [app_ok _ _ 8 (by rw [nats_len]; simp; omega) (by rw [nats_len]; simp; omega)]
   simp only [Option.bind_some]
   have := ih (acc ++ [i]) (by simp; omega)
   rw [nats_append, List.append_assoc] at this
   exact this
end RC



namespace RC
open Go
def ramp : Nat → Nat → List Int
 | _, 0 => []
 | k, n + 1 => (k : Int) :: ramp (k + 1) n
theorem ramp_len : ∀ (n k : Nat), (ramp k n).length = n
 | 0, _ => rfl
 | n + 1, k => by simp [ramp, ramp_len n]
theorem get_mid {α : Type} (A B : List α) (x : α) : Sh.get (A ++ x :: B) (A.length : Int) = some x := get_lt (by simp)
theorem put_mid {α : Type} (A B : List α) (x y : α) : Sh.put (A ++ x :: B) (A.length : Int) y = A ++ y :: B := by rw [put_nat]; simp
theorem markIntS_L1_eq : ∀ (B A : List Int) (k n : Nat), B.length < n → A.length + B.length ≤ 2000000 → k + B.length ≤ 100000000 →
  laws_markIntS_L1 n (k : Int) (A.length : Int) (A ++ B) = some (((k + B.length : Nat) : Int), A ++ ramp k B.length)
 | [], A, k, n, hn, _, _ => by
  obtain ⟨n, rfl⟩ : ∃ m, n = m + 1 := ⟨n - 1, by simp at hn; omega⟩
  rw [laws_markIntS_L1, if_neg (by simp [len_def])]; simp [ramp]
 | b :: B, A, k, n, hn, h1, h2 => by
  simp only [List.length_cons] at hn h1 h2 ⊢
  obtain ⟨n, rfl⟩ : ∃ m, n = m + 1 := ⟨n - 1, by omega⟩
  have ih := markIntS_L1_eq B (A ++ [(k : Int)]) (k + 1) n (by omega) (by simp; omega) (by omega)
  rw [laws_markIntS_L1, if_pos (by simp [len_def]; omega), get_mid, put_mid, w_id (by omega) (by omega), w_id (by omega) (by omega)]
  simp only [Option.bind_some]
  rw [List.length_append, List.append_assoc, List.append_assoc] at ih
  simp only [List.length_cons, List.length_nil, List.cons_append, List.nil_append] at ih
  have e1 : ((A.length : Int) + 1) = ((A.length + (0 + 1) : Nat) : Int) := by omega
  have e2 : ((k : Int) + 1) = ((k + 1 : Nat) : Int) := by omega
  rw [e1, e2, ih]
  simp only [ramp, show k + 1 + B.length = k + (B.length + 1) by omega]
theorem markIntS_eq {l : List Int} (hl : l.length ≤ 1048576) {k : Nat} (hk : k ≤ 50000000) {N : Nat} (hN : 2000000 ≤ N) : laws_markIntS N l (k : Int) = some (((k + l.length : Nat) : Int), ramp k l.length) := by
 unfold laws_markIntS
 have := markIntS_L1_eq l [] k N (by omega) (by simp; omega) (by omega)
 rw [List.length_nil, List.nil_append, List.nil_append] at this
 rw [show (0 : Int) = ((0 : Nat) : Int) from rfl, this]; rfl
theorem heldIntS_L1_eq : ∀ (m : Nat) (A : List Int) (k n : Nat), m < n → A.length + m ≤ 2000000 → k + m ≤ 100000000 →
  laws_heldIntS_L1 (A ++ ramp k m) n (k : Int) (A.length : Int) = some (Sum.inr (((k + m : Nat) : Int)))
 | 0, A, k, n, hn, _, _ => by
  obtain ⟨n, rfl⟩ : ∃ m, n = m + 1 := ⟨n - 1, by omega⟩
  rw [laws_heldIntS_L1, if_neg (by simp [len_def, ramp])]; simp
 | m + 1, A, k, n, hn, h1, h2 => by
  obtain ⟨n, rfl⟩ : ∃ m, n = m + 1 := ⟨n - 1, by omega⟩
  have ih := heldIntS_L1_eq m (A ++ [(k : Int)]) (k + 1) n (by omega) (by simp; omega) (by omega)
  rw [laws_heldIntS_L1, if_pos (by simp [len_def, ramp_len]; omega)]
  simp only [ramp]
  rw [get_mid, w_id (by omega) (by omega), w_id (by omega) (by omega)]
  simp only [Option.bind_some, decide_true, Bool.not_true, Bool.false_eq_true, if_false]
  rw [List.length_append, List.append_assoc] at ih
  simp only [List.length_cons, List.length_nil, List.cons_append, List.nil_append] at ih
  have e1 : ((A.length : Int) + 1) = ((A.length + (0 + 1) : Nat) : Int) := by omega
  have e2 : ((k : Int) + 1) = ((k + 1 : Nat) : Int) := by omega
  rw [e1, e2, ih]
  simp only [show k + 1 + m = k + (m + 1) by omega]
theorem heldIntS_eq {m : Nat} (hl : m ≤ 1048576) {k : Nat} (hk : k ≤ 50000000) {N : Nat} (hN : 2000000 ≤ N) : laws_heldIntS N (ramp k m) (k : Int) = some (((k + m : Nat) : Int)) := by
 unfold laws_heldIntS
 have := heldIntS_L1_eq m [] k N (by omega) (by simp; omega) (by omega)
 rw [List.length_nil, List.nil_append] at this
 rw [show (0 : Int) = ((0 : Nat) : Int) from rfl, this]; rfl
end RC



namespace RC
open Go
def allAt {α : Type} (f : Nat → α → Bool) : Nat → List α → Bool
 | _, [] => true
 | k, x :: r => f k x && allAt f (k + 1) r
theorem allAt_congr {α : Type} {f g : Nat → α → Bool} : ∀ (l : List α) (k : Nat), (∀ (i : Nat) x, l[i]? = some x → f (k + i) x = g (k + i) x) → allAt f k l = allAt g k l
 | [], _, _ => rfl
 | x :: r, k, h => by
  have h0 := h 0 x rfl
  rw [Nat.add_zero] at h0
  have h1 := allAt_congr r (k + 1) fun i y hy => (show k + (i + 1) = k + 1 + i by omega) ▸ h (i + 1) y hy
  rw [allAt, allAt, h0, h1]
theorem allAt_all {α : Type} {p : α → Bool} : ∀ (l : List α) (k : Nat), allAt (fun _ x => p x) k l = l.all p
 | [], _ => rfl
 | x :: r, k => by rw [allAt, allAt_all r (k + 1), List.all_cons]
theorem all_loop {α : Type} {l : List α} (L : Nat → Int → Option (Bool ⊕ Unit)) (f : Nat → α → Bool) (h0 : ∀ n, L (n + 1) (l.length : Int) = some (.inr ()))
  (hs : ∀ n (i : Nat) x, l[i]? = some x → L (n + 1) (i : Int) = if f i x = true then L n ((i + 1 : Nat) : Int) else some (.inl false)) {N : Nat} (hN : l.length < N) :
  L N 0 = some (if allAt f 0 l = true then .inr () else .inl false) := by
 have key : ∀ {N i : Nat}, i ≤ l.length → l.length - i < N → L N (i : Int) = some (if allAt f i (l.drop i) = true then .inr () else .inl false) := by
  intro N i hi hN
  refine loop_ind l.length (fun N i => L N (i : Int) = some (if allAt f i (l.drop i) = true then .inr () else .inl false)) ?_ ?_ hi hN
  ·intro n; rw [h0 n]; simp [allAt]
  ·intro n i hi ih
   obtain ⟨x, hx, _⟩ := at_lt hi
   rw [hs n i x hx, ih, drop_cons hx, allAt]
   cases h : f i x <;> simp
 have := key (Nat.zero_le _) (by omega : l.length - 0 < N)
 simpa using this
theorem cont_all {β : Type} {b : Bool} {g : Bool → β} {K : Unit → Option β} : Sh.cont (some (if b = true then Sum.inr () else Sum.inl false)) g K = if b = true then K () else some (g false) := by
 cases b <;> rfl
theorem sl_take {α : Type} {l : List α} {j : Nat} (h : j ≤ l.length) (h2 : l.length ≤ 9223372036854775807) : Sh.sl l 0 (j : Int) = some (l.take j) := by
 unfold Sh.sl
 rw [if_pos ⟨by omega, by omega, by omega⟩]; simp
end RC



namespace RC
open Go
def tyB (D : List RDecl) (t : Int) : Bool := decide (0 ≤ t) && decide (t ≤ (D.length : Int))
theorem inRange_ty {D : List RDecl} {x : Int} : spec_inRange x 0 (Sh.len D) = some (tyB D x) := by rw [inRange_eq]; rfl
theorem spec_allTypes_eq {D : List RDecl} {l : List Int} (hl : l.length ≤ 1048576) {N : Nat} (hN : l.length < N) : spec_allTypes N D l = some (l.all (tyB D)) := by
 unfold spec_allTypes
 rw [all_loop (l := l) (spec_allTypes_L1 D l) (fun _ x => tyB D x) (fun n => by rw [spec_allTypes_L1, if_neg (by simp [len_def])]) (fun n i x hx => ?_) hN, cont_all, allAt_all]
 ·cases l.all (tyB D) <;> rfl
 ·have hi := (List.getElem?_eq_some_iff.1 hx).1
  rw [spec_allTypes_L1, if_pos (by simp [len_def]; omega), get_lt hx]
  simp only [Option.bind_some]
  rw [inRange_ty, w_id (by omega) (by omega), show ((i : Int) + 1) = ((i + 1 : Nat) : Int) by omega]
  simp only [Option.bind_some]
  cases tyB D x <;> rfl
theorem impl_isType_eq {D : List RDecl} {t : Int} : impl_isType D t = some (tyB D t) := by
 unfold impl_isType tyB
 by_cases h : 0 ≤ t <;> by_cases h2 : t ≤ (D.length : Int) <;> simp [h, h2, len_def]
theorem impl_allTypes_eq {D : List RDecl} {l : List Int} (hl : l.length ≤ 1048576) {N : Nat} (hN : l.length < N) : impl_allTypes N D l = some (l.all (tyB D)) := by
 unfold impl_allTypes
 rw [all_loop (l := l) (impl_allTypes_L1 D l) (fun _ x => tyB D x) (fun n => by rw [impl_allTypes_L1, if_neg (by simp [len_def])]) (fun n i x hx => ?_) hN, cont_all, allAt_all]
 ·cases l.all (tyB D) <;> rfl
 ·have hi := (List.getElem?_eq_some_iff.1 hx).1
  rw [impl_allTypes_L1, if_pos (by simp [len_def]; omega), get_lt hx]
  simp only [Option.bind_some]
  rw [impl_isType_eq, w_id (by omega) (by omega), show ((i : Int) + 1) = ((i + 1 : Nat) : Int) by omega]
  simp only [Option.bind_some]
  cases tyB D x <;> rfl
def conB (D : List RDecl) (c : RCon) : Bool := decide (c.fields.length ≤ 3) && c.fields.all (tyB D)
def sameArrow (a b : RDecl) : Bool := decide (a.cons.length = 0) && (decide (a.from_ = b.from_) && decide (a.to = b.to))
def declB (D : List RDecl) (i : Nat) (d : RDecl) : Bool :=
 if 0 < d.cons.length then (decide (d.cons.length ≤ 3) && (decide (d.from_ = 0) && decide (d.to = 0))) && d.cons.all (conB D)
 else (D.take i).all (fun e => !sameArrow e d) && (tyB D d.from_ && tyB D d.to)
def declI (D : List RDecl) (i : Nat) (d : RDecl) : Bool :=
 ((tyB D d.from_ && (tyB D d.to && (decide (d.cons.length ≤ 3) && (!(decide (0 < d.cons.length) && (!decide (d.from_ = 0) || !decide (d.to = 0))))))) && d.cons.all (conB D)) && (D.take i).all (fun e => !(decide (d.cons.length = 0) && sameArrow e d))
theorem decl_same (D : List RDecl) (i : Nat) (d : RDecl) : declI D i d = declB D i d := by
 unfold declI declB
 by_cases h : 0 < d.cons.length
 ·have h0 : ¬ d.cons.length = 0 := by omega
  have ha : (D.take i).all (fun e => !(decide (d.cons.length = 0) && sameArrow e d)) = true := by simp [h0]
  rw [if_pos h, ha]
  by_cases h1 : d.from_ = 0 <;> by_cases h2 : d.to = 0 <;> simp [h, h1, h2, tyB]
 ·have h0 : d.cons.length = 0 := by omega
  have hc : d.cons = [] := List.eq_nil_of_length_eq_zero h0
  rw [if_neg h]
  simp only [hc, h0, List.length_nil, List.all_nil, decide_true, Bool.true_and, Bool.and_true]
  cases tyB D d.from_ <;> cases tyB D d.to <;> simp
structure DSmall (D : List RDecl) : Prop where
 len : D.length ≤ 1048576
 cons : ∀ d ∈ D, d.cons.length ≤ 1048576
 flds : ∀ d ∈ D, ∀ c ∈ d.cons, c.fields.length ≤ 1048576
theorem spec_validDecl_eq {D : List RDecl} (hD : DSmall D) {i : Nat} {d : RDecl} (hd : D[i]? = some d) {N : Nat} (hN : 2000000 ≤ N) : spec_validDecl N D i = some (declB D i d) := by
 have hm := List.mem_of_getElem? hd
 have hi := (List.getElem?_eq_some_iff.1 hd).1
 have hlen := hD.len
 have hc := hD.cons d hm
 unfold spec_validDecl declB
 rw [get_lt hd]
 simp only [Option.bind_some]
 by_cases h : 0 < d.cons.length
 ·rw [if_pos (by simp [len_def]; omega), if_pos h]
  rw [all_loop (l := d.cons) (spec_validDecl_L1 N d D) (fun _ c => conB D c) (fun n => by rw [spec_validDecl_L1, if_neg (by simp [len_def])]) (fun n j c hj => ?_) (by omega), cont_all, allAt_all]
  ·simp only [len_def]
   by_cases h3 : d.cons.length ≤ 3
   ·have e3 : ¬ (3 : Int) < (d.cons.length : Int) := by omega
    generalize d.cons.all (conB D) = z
    cases z <;> by_cases h1 : d.from_ = 0 <;> by_cases h2 : d.to = 0 <;> simp [h1, h2, h3, e3]
   ·have e3 : (3 : Int) < (d.cons.length : Int) := by omega
    simp [h3, e3]
  ·have hj' := (List.getElem?_eq_some_iff.1 hj).1
   have hf := hD.flds d hm c (List.mem_of_getElem? hj)
   rw [spec_validDecl_L1, if_pos (by simp [len_def]; omega), get_lt hj]
   simp only [Option.bind_some]
   rw [spec_allTypes_eq hf (by omega), w_id (by omega) (by omega), show ((j : Int) + 1) = ((j + 1 : Nat) : Int) by omega]
   unfold conB
   by_cases h3 : c.fields.length ≤ 3
   ·have e3 : ¬ (3 : Int) < (c.fields.length : Int) := by omega
    simp only [len_def]
    cases c.fields.all (tyB D) <;> simp [h3, e3]
   ·have e3 : (3 : Int) < (c.fields.length : Int) := by omega
    simp [h3, e3, len_def]
 ·have h0 : d.cons.length = 0 := by omega
  have e0 : ¬ decide ((0 : Int) < Sh.len d.cons) = true := by rw [len_def, h0]; simp
  rw [if_neg e0, if_neg h]
  have hlt : (D.take i).length = i := by simp; omega
  rw [all_loop (l := D.take i) (spec_validDecl_L2 d D i) (fun _ e => !sameArrow e d) (fun n => by rw [spec_validDecl_L2, if_neg (by simp; omega)]) (fun n j e hj => ?_) (by omega), cont_all, allAt_all]
  ·rw [inRange_ty, inRange_ty]
   simp only [Option.bind_some]
   cases (D.take i).all (fun e => !sameArrow e d) <;> cases tyB D d.from_ <;> simp
  ·have hj' := (List.getElem?_eq_some_iff.1 hj).1
   have hje : D[j]? = some e := by rw [List.getElem?_take] at hj; split at hj <;> first | exact hj | cases hj
   rw [spec_validDecl_L2, if_pos (by simp; omega), get_lt hje]
   simp only [Option.bind_some]
   rw [w_id (by omega) (by omega), show ((j : Int) + 1) = ((j + 1 : Nat) : Int) by omega]
   unfold sameArrow
   simp only [len_def]
   by_cases a0 : e.cons.length = 0 <;> by_cases a1 : e.from_ = d.from_ <;> by_cases a2 : e.to = d.to <;> simp [a0, a1, a2]
def typesB (D : List RDecl) : Bool := decide (D.length ≤ 4) && allAt (declB D) 0 D
theorem spec_validTypes_eq {D : List RDecl} (hD : DSmall D) {N : Nat} (hN : 2000000 ≤ N) : spec_validTypes N D = some (typesB D) := by
 have hlen := hD.len
 unfold spec_validTypes typesB
 rw [all_loop (l := D) (spec_validTypes_L1 N D) (declB D) (fun n => by rw [spec_validTypes_L1, if_neg (by simp [len_def])]) (fun n i d hd => ?_) (by omega), cont_all]
 ·simp only [len_def]
  by_cases h : D.length ≤ 4
  ·have e4 : ¬ (4 : Int) < (D.length : Int) := by omega
   cases allAt (declB D) 0 D <;> simp [h, e4]
  ·have e4 : (4 : Int) < (D.length : Int) := by omega
   simp [h, e4]
 ·have hi := (List.getElem?_eq_some_iff.1 hd).1
  rw [spec_validTypes_L1, if_pos (by simp [len_def]; omega), spec_validDecl_eq hD hd hN]
  simp only [Option.bind_some]
  rw [w_id (by omega) (by omega), show ((i : Int) + 1) = ((i + 1 : Nat) : Int) by omega]
  cases declB D i d <;> rfl
theorem impl_ValidTypes_eq {D : List RDecl} (hD : DSmall D) {N : Nat} (hN : 2000000 ≤ N) : impl_ValidTypes N D = some (typesB D) := by
 have hlen := hD.len
 unfold impl_ValidTypes typesB
 rw [← allAt_congr (f := declI D) D 0 (fun i d _ => decl_same D _ d)]
 rw [all_loop (l := D) (impl_ValidTypes_L1 N D) (declI D) (fun n => by rw [impl_ValidTypes_L1, if_neg (by simp [len_def])]) (fun n i d hd => ?_) (by omega), cont_all]
 ·simp only [len_def]
  by_cases h : D.length ≤ 4
  ·have e4 : ¬ (4 : Int) < (D.length : Int) := by omega
   cases allAt (declI D) 0 D <;> simp [h, e4]
  ·have e4 : (4 : Int) < (D.length : Int) := by omega
   simp [h, e4]
 ·have hi := (List.getElem?_eq_some_iff.1 hd).1
  have hm := List.mem_of_getElem? hd
  have hc := hD.cons d hm
  have l2 : impl_ValidTypes_L2 N d D N 0 = some (if d.cons.all (conB D) = true then .inr () else .inl false) := by
   rw [all_loop (l := d.cons) (impl_ValidTypes_L2 N d D) (fun _ c => conB D c) (fun n => by rw [impl_ValidTypes_L2, if_neg (by simp [len_def])]) (fun n j c hj => ?_) (by omega), allAt_all]
   have hj' := (List.getElem?_eq_some_iff.1 hj).1
   have hf := hD.flds d hm c (List.mem_of_getElem? hj)
   rw [impl_ValidTypes_L2, if_pos (by simp [len_def]; omega), get_lt hj]
   simp only [Option.bind_some]
   rw [impl_allTypes_eq hf (by omega), w_id (by omega) (by omega), show ((j : Int) + 1) = ((j + 1 : Nat) : Int) by omega]
   unfold conB
   by_cases h3 : c.fields.length ≤ 3
   ·have e3 : ¬ (3 : Int) < (c.fields.length : Int) := by omega
    simp only [len_def]
    cases c.fields.all (tyB D) <;> simp [h3, e3]
   ·have e3 : (3 : Int) < (c.fields.length : Int) := by omega
    simp [h3, e3, len_def]
  have hlt : (D.take i).length = i := by simp; omega
  have l3 : impl_ValidTypes_L3 d (D.take i) N 0 = some (if (D.take i).all (fun e => !(decide (d.cons.length = 0) && sameArrow e d)) = true then .inr () else .inl false) := by
   rw [all_loop (l := D.take i) (impl_ValidTypes_L3 d (D.take i)) (fun _ e => !(decide (d.cons.length = 0) && sameArrow e d)) (fun n => by rw [impl_ValidTypes_L3, if_neg (by simp [len_def])]) (fun n j e hj => ?_) (by omega), allAt_all]
   have hj' := (List.getElem?_eq_some_iff.1 hj).1
   rw [impl_ValidTypes_L3, if_pos (by simp only [len_def]; simp; omega), get_lt hj]
   simp only [Option.bind_some]
   rw [w_id (by omega) (by omega), show ((j : Int) + 1) = ((j + 1 : Nat) : Int) by omega]
   unfold sameArrow
   simp only [len_def]
   by_cases b0 : d.cons.length = 0 <;> by_cases a0 : e.cons.length = 0 <;> by_cases a1 : e.from_ = d.from_ <;> by_cases a2 : e.to = d.to <;> simp [a0, a1, a2, b0]
  rw [impl_ValidTypes_L1, if_pos (by simp [len_def]; omega), get_lt hd]
  simp only [Option.bind_some]
  rw [impl_isType_eq, impl_isType_eq, l2, sl_take (by omega) (by omega), w_id (by omega) (by omega), show ((i : Int) + 1) = ((i + 1 : Nat) : Int) by omega]
  simp only [Option.bind_some]
  rw [l3, cont_all, cont_all]
  unfold declI
  simp only [len_def]
  generalize d.cons.all (conB D) = z1
  generalize (D.take i).all (fun e => !(decide (d.cons.length = 0) && sameArrow e d)) = z2
  by_cases h3 : d.cons.length ≤ 3
  ·have e3 : ¬ (3 : Int) < (d.cons.length : Int) := by omega
   by_cases h0 : 0 < d.cons.length
   ·have e0 : (0 : Int) < (d.cons.length : Int) := by omega
    cases tyB D d.from_ <;> cases tyB D d.to <;> cases z1 <;> cases z2 <;> by_cases h1 : d.from_ = 0 <;> by_cases h2 : d.to = 0 <;> simp [h1, h2, h3, e3, h0]
   ·have e0 : ¬ (0 : Int) < (d.cons.length : Int) := by omega
    cases tyB D d.from_ <;> cases tyB D d.to <;> cases z1 <;> cases z2 <;> simp [h3, e3, h0]
  ·have e3 : (3 : Int) < (d.cons.length : Int) := by omega
   cases tyB D d.from_ <;> cases tyB D d.to <;> simp [h3, e3]
end RC



namespace RC
open Go
def lentB (ps ls : List Int) (i : Nat) (v : Int) : Bool :=
 (decide (0 ≤ v) && decide (v < (ps.length : Int))) && (!decide (ps[v.toNat]? = some 0) && !(decide (0 < i) && decide (v ≤ (ls[i - 1]?).getD 0)))
theorem prev_get {ls : List Int} {i : Nat} (h0 : 0 < i) (hi : i < ls.length) : ∃ x, ls[i - 1]? = some x ∧ Sh.get ls (((i : Nat) : Int) - 1) = some x := by
 obtain ⟨x, hx, _⟩ := at_lt (l := ls) (i := i - 1) (by omega)
 exact ⟨x, hx, by rw [show ((i : Int) - 1) = ((i - 1 : Nat) : Int) by omega, get_lt hx]⟩
theorem spec_validLent_eq {ps ls : List Int} (hp : ps.length ≤ 1048576) (hl : ls.length ≤ 1048576) {N : Nat} (hN : 2000000 ≤ N) : spec_validLent N ps ls = some (allAt (lentB ps ls) 0 ls) := by
 unfold spec_validLent
 rw [all_loop (l := ls) (spec_validLent_L1 ps ls) (lentB ps ls) (fun n => by rw [spec_validLent_L1, if_neg (by simp [len_def])]) (fun n i v hv => ?_) (by omega), cont_all]
 ·cases allAt (lentB ps ls) 0 ls <;> rfl
 ·have hi := (List.getElem?_eq_some_iff.1 hv).1
  rw [spec_validLent_L1, if_pos (by simp [len_def]; omega), get_lt hv]
  simp only [Option.bind_some]
  rw [inRange_eq, len_def, w_id (n := (ps.length : Int) - 1) (by omega) (by omega), w_id (n := (i : Int) + 1) (by omega) (by omega), w_id (n := (i : Int) - 1) (by omega) (by omega), show ((i : Int) + 1) = ((i + 1 : Nat) : Int) by omega]
  simp only [Option.bind_some]
  unfold lentB
  by_cases h0 : 0 ≤ v
  ·by_cases h1 : v < (ps.length : Int)
   ·have h1' : v ≤ (ps.length : Int) - 1 := by omega
    obtain ⟨c, e1, e2⟩ := get_pos h0 h1
    rw [e1, e2]
    by_cases hi0 : 0 < i
    ·obtain ⟨x, g1, g2⟩ := prev_get hi0 hi
     rw [g1, g2]
     by_cases hc : c = 0 <;> by_cases hx : v ≤ x <;> simp [h0, h1, h1', hc, hi0, hx]
    ·by_cases hc : c = 0 <;> simp [h0, h1, h1', hc, hi0]
   ·have h1' : ¬ v ≤ (ps.length : Int) - 1 := by omega
    simp [h0, h1, h1']
  ·simp [h0]
theorem impl_lent_eq {c : RSignature} (hp : c.params.length ≤ 1048576) (hl : c.lent.length ≤ 1048576) {N : Nat} (hN : 2000000 ≤ N) : impl_validSigs_L2 c N 0 = some (if allAt (lentB c.params c.lent) 0 c.lent = true then .inr () else .inl false) := by
 refine all_loop (l := c.lent) (impl_validSigs_L2 c) (lentB c.params c.lent) (fun n => by rw [impl_validSigs_L2, if_neg (by simp [len_def])]) (fun n i v hv => ?_) (by omega)
 have hi := (List.getElem?_eq_some_iff.1 hv).1
 rw [impl_validSigs_L2, if_pos (by simp [len_def]; omega), get_lt hv]
 simp only [Option.bind_some]
 rw [len_def, w_id (n := (i : Int) + 1) (by omega) (by omega), w_id (n := (i : Int) - 1) (by omega) (by omega), show ((i : Int) + 1) = ((i + 1 : Nat) : Int) by omega]
 unfold lentB
 by_cases h0 : 0 ≤ v
 ·have h0' : ¬ v < 0 := by omega
  by_cases h1 : v < (c.params.length : Int)
  ·have h1' : ¬ (c.params.length : Int) ≤ v := by omega
   obtain ⟨d, e1, e2⟩ := get_pos h0 h1
   rw [e1, e2]
   by_cases hi0 : 0 < i
   ·obtain ⟨x, g1, g2⟩ := prev_get hi0 hi
    rw [g1, g2]
    by_cases hc : d = 0 <;> by_cases hx : v ≤ x <;> simp [h0, h0', h1, h1', hc, hi0, hx]
   ·by_cases hc : d = 0 <;> simp [h0, h0', h1, h1', hc, hi0]
  ·have h1' : (c.params.length : Int) ≤ v := by omega
   simp [h0, h0', h1, h1']
 ·have h0' : v < 0 := by omega
  simp [h0, h0']
def sigB (D : List RDecl) (ps : List Int) (r : Int) : Bool := decide (ps.length ≤ 3) && (ps.all (tyB D) && tyB D r)
theorem spec_sigs_L1_eq {p : RProgram} (hf : p.funcs.length ≤ 1048576) (hp : ∀ f ∈ p.funcs, f.params.length ≤ 1048576) {N : Nat} (hN : 2000000 ≤ N) : spec_validSigs_L1 N p N 0 = some (if (p.funcs.all fun f => sigB p.decls f.params f.result) = true then .inr () else .inl false) := by
 rw [← allAt_all _ 0]
 refine all_loop (l := p.funcs) (spec_validSigs_L1 N p) (fun _ f => sigB p.decls f.params f.result) (fun n => by rw [spec_validSigs_L1, if_neg (by simp [len_def])]) (fun n i f hi => ?_) (by omega)
 have hi' := (List.getElem?_eq_some_iff.1 hi).1
 have hpf := hp f (List.mem_of_getElem? hi)
 rw [spec_validSigs_L1, if_pos (by simp [len_def]; omega), get_lt hi]
 simp only [Option.bind_some]
 rw [spec_allTypes_eq hpf (by omega), inRange_ty, w_id (by omega) (by omega), show ((i : Int) + 1) = ((i + 1 : Nat) : Int) by omega]
 unfold sigB
 simp only [len_def]
 by_cases h3 : f.params.length ≤ 3
 ·have e3 : ¬ (3 : Int) < (f.params.length : Int) := by omega
  generalize f.params.all (tyB p.decls) = z
  cases z <;> cases tyB p.decls f.result <;> simp [h3, e3]
 ·have e3 : (3 : Int) < (f.params.length : Int) := by omega
  simp [h3, e3]
theorem impl_sigs_L1_eq {D : List RDecl} {l : List RSignature} (hf : l.length ≤ 1048576) (hp : ∀ f ∈ l, f.params.length ≤ 1048576 ∧ f.lent.length ≤ 1048576) {N : Nat} (hN : 2000000 ≤ N) : impl_validSigs_L1 N D l N 0 = some (if (l.all fun f => sigB D f.params f.result && allAt (lentB f.params f.lent) 0 f.lent) = true then .inr () else .inl false) := by
 rw [← allAt_all _ 0]
 refine all_loop (l := l) (impl_validSigs_L1 N D l) (fun _ f => sigB D f.params f.result && allAt (lentB f.params f.lent) 0 f.lent) (fun n => by rw [impl_validSigs_L1, if_neg (by simp [len_def])]) (fun n i f hi => ?_) (by omega)
 have hi' := (List.getElem?_eq_some_iff.1 hi).1
 have hpf := hp f (List.mem_of_getElem? hi)
 rw [impl_validSigs_L1, if_pos (by simp [len_def]; omega), get_lt hi]
 simp only [Option.bind_some]
 rw [impl_allTypes_eq hpf.1 (by omega), impl_isType_eq, impl_lent_eq hpf.1 hpf.2 hN, cont_all, w_id (by omega) (by omega), show ((i : Int) + 1) = ((i + 1 : Nat) : Int) by omega]
 unfold sigB
 simp only [len_def]
 generalize allAt (lentB f.params f.lent) 0 f.lent = y
 by_cases h3 : f.params.length ≤ 3
 ·have e3 : ¬ (3 : Int) < (f.params.length : Int) := by omega
  generalize f.params.all (tyB D) = z
  cases z <;> cases tyB D f.result <;> cases y <;> simp [h3, e3]
 ·have e3 : (3 : Int) < (f.params.length : Int) := by omega
  simp [h3, e3]
end RC
namespace RC
open Go
def first0 (D : List (List Int × Int)) : Bool := match D with | [] => false | (ps, r) :: _ => decide (ps.length = 0) && decide (r = 0)
def sigsB (D : List RDecl) (l : List (List Int × Int)) : Bool := typesB D && ((decide (1 ≤ l.length) && decide (l.length ≤ 4)) && (l.all (fun s => sigB D s.1 s.2) && first0 l))
def toF (p : RProc) : RFunc := ⟨p.params, p.result, .mk 0 0 []⟩
def toS (p : RProc) : RSignature := ⟨p.params, p.lent, p.result⟩
theorem spec_validSigs_eq {p : RProgram} (hD : DSmall p.decls) (hf : p.funcs.length ≤ 1048576) (hp : ∀ f ∈ p.funcs, f.params.length ≤ 1048576) {N : Nat} (hN : 2000000 ≤ N) : spec_validSigs N p = some (sigsB p.decls (p.funcs.map fun f => (f.params, f.result))) := by
 unfold spec_validSigs sigsB
 rw [spec_validTypes_eq hD hN, spec_sigs_L1_eq hf hp hN, cont_all, inRange_eq]
 simp only [Option.bind_some, List.length_map, List.all_map, Function.comp_def]
 cases typesB p.decls with
 | false => simp
 | true =>
  cases hl : p.funcs with
  | nil => simp [len_def]
  | cons f r =>
   have e0 : Sh.get (f :: r) 0 = some f := rfl
   rw [e0]
   generalize (f :: r).all (fun f => sigB p.decls f.params f.result) = z
   simp only [List.map_cons, first0]
   have q1 : decide ((1 : Int) ≤ Sh.len (f :: r)) = true := decide_eq_true (by rw [len_def, List.length_cons]; omega)
   have q2 : decide (1 ≤ (f :: r).length) = true := by simp
   have q3 : decide (Sh.len (f :: r) ≤ 4) = decide ((f :: r).length ≤ 4) := decide_eq_decide.2 (by rw [len_def]; omega)
   have q4 : decide (Sh.len f.params = 0) = decide (f.params.length = 0) := decide_eq_decide.2 (by rw [len_def]; omega)
   simp only [q1, q2, q3, q4, Option.bind_some]
   cases decide ((f :: r).length ≤ 4) <;> cases z <;> by_cases a1 : f.params.length = 0 <;> by_cases a2 : f.result = 0 <;> simp [a1, a2]
theorem impl_validSigs_eq {D : List RDecl} {l : List RSignature} (hD : DSmall D) (hf : l.length ≤ 1048576) (hp : ∀ f ∈ l, f.params.length ≤ 1048576 ∧ f.lent.length ≤ 1048576) {N : Nat} (hN : 2000000 ≤ N) :
  impl_validSigs N D l = some (sigsB D (l.map fun f => (f.params, f.result)) && l.all (fun f => allAt (lentB f.params f.lent) 0 f.lent)) := by
 unfold impl_validSigs sigsB
 rw [impl_ValidTypes_eq hD hN, impl_sigs_L1_eq hf hp hN, cont_all]
 have hsplit : (l.all fun f => sigB D f.params f.result && allAt (lentB f.params f.lent) 0 f.lent) = ((l.all fun f => sigB D f.params f.result) && (l.all fun f => allAt (lentB f.params f.lent) 0 f.lent)) := by
  clear hf hp
  induction l with
  | nil => rfl
  | cons f r ih =>
   simp only [List.all_cons, ih]
   cases sigB D f.params f.result <;> cases allAt (lentB f.params f.lent) 0 f.lent <;> simp
 rw [hsplit]
 simp only [Option.bind_some, List.length_map, List.all_map, Function.comp_def]
 cases typesB D with
 | false => simp
 | true =>
  cases hl : l with
  | nil => simp [len_def]
  | cons f r =>
   have e0 : Sh.get (f :: r) 0 = some f := rfl
   rw [e0]
   generalize (f :: r).all (fun f => sigB D f.params f.result) = z
   generalize (f :: r).all (fun f => allAt (lentB f.params f.lent) 0 f.lent) = y
   simp only [List.map_cons, first0]
   have q1 : decide (Sh.len (f :: r) < 1) = false := decide_eq_false (by rw [len_def, List.length_cons]; omega)
   have q2 : decide (1 ≤ (f :: r).length) = true := by simp
   have q3 : decide ((4 : Int) < Sh.len (f :: r)) = !decide ((f :: r).length ≤ 4) := by rw [← decide_not]; exact decide_eq_decide.2 (by rw [len_def]; omega)
   have q4 : decide ((0 : Int) < Sh.len f.params) = !decide (f.params.length = 0) := by rw [← decide_not]; exact decide_eq_decide.2 (by rw [len_def]; omega)
   simp only [q1, q2, q3, q4, Option.bind_some]
   cases decide ((f :: r).length ≤ 4) <;> cases z <;> cases y <;> by_cases a1 : f.params.length = 0 <;> by_cases a2 : f.result = 0 <;> simp [a1, a2]
theorem spec_sigsOfImage_eq {im : RImage} (hl : im.procs.length ≤ 1048576) {N : Nat} (hN : 2000000 ≤ N) : spec_sigsOfImage N im = some ⟨im.decls, im.procs.map toF⟩ := by
 unfold spec_sigsOfImage
 have key : ∀ {N i : Nat}, i ≤ im.procs.length → im.procs.length - i < N → spec_sigsOfImage_L1 im N i ((im.procs.take i).map toF) = some (im.procs.map toF) := by
  intro N i hi hN
  refine loop_ind im.procs.length (fun N i => spec_sigsOfImage_L1 im N i ((im.procs.take i).map toF) = some (im.procs.map toF)) ?_ ?_ hi hN
  ·intro n; rw [spec_sigsOfImage_L1, if_neg (by simp [len_def]), List.take_length]
  ·intro n i hi ih
   obtain ⟨p, hp, _⟩ := at_lt hi
   rw [spec_sigsOfImage_L1, if_pos (by simp [len_def]; omega), get_lt hp]
   simp only [Option.bind_some]
   rw [app_ok _ _ _ (by simp; omega) (by simp; omega), w_id (by omega) (by omega), show ((i : Int) + 1) = ((i + 1 : Nat) : Int) by omega]
   simp only [Option.bind_some]
   rw [← ih, take_snoc hp, List.map_append]; rfl
 have := key (Nat.zero_le _) (by omega : im.procs.length - 0 < N)
 rw [show (((0 : Nat) : Int)) = 0 from rfl, List.take_zero, List.map_nil] at this
 rw [this]; rfl
theorem impl_sigs_list {im : RImage} (hl : im.procs.length ≤ 1048576) {N : Nat} (hN : 2000000 ≤ N) : impl_imageSigs_L1 im N 0 [] = some (im.procs.map toS) := by
 have key : ∀ {N i : Nat}, i ≤ im.procs.length → im.procs.length - i < N → impl_imageSigs_L1 im N i ((im.procs.take i).map toS) = some (im.procs.map toS) := by
  intro N i hi hN
  refine loop_ind im.procs.length (fun N i => impl_imageSigs_L1 im N i ((im.procs.take i).map toS) = some (im.procs.map toS)) ?_ ?_ hi hN
  ·intro n; rw [impl_imageSigs_L1, if_neg (by simp [len_def]), List.take_length]
  ·intro n i hi ih
   obtain ⟨p, hp, _⟩ := at_lt hi
   rw [impl_imageSigs_L1, if_pos (by simp [len_def]; omega), get_lt hp]
   simp only [Option.bind_some]
   rw [app_ok _ _ _ (by simp; omega) (by simp; omega), w_id (by omega) (by omega), show ((i : Int) + 1) = ((i + 1 : Nat) : Int) by omega]
   simp only [Option.bind_some]
   rw [← ih, take_snoc hp, List.map_append]; rfl
 have := key (Nat.zero_le _) (by omega : im.procs.length - 0 < N)
 rw [show (((0 : Nat) : Int)) = 0 from rfl, List.take_zero, List.map_nil] at this
 exact this
end RC



namespace RC
open Go
def nc (D : List RDecl) : Nat := (D.map (·.cons.length)).sum
theorem nc_take {D : List RDecl} {i : Nat} {d : RDecl} (h : D[i]? = some d) : nc (D.take (i + 1)) = nc (D.take i) + d.cons.length := by
 rw [take_snoc h]; simp [nc]
theorem nc_drop {D : List RDecl} {i : Nat} {d : RDecl} (h : D[i]? = some d) : nc (D.drop i) = d.cons.length + nc (D.drop (i + 1)) := by
 rw [drop_cons h]; simp [nc]
theorem nc_split (D : List RDecl) (i : Nat) : nc D = nc (D.take i) + nc (D.drop i) := by
 unfold nc
 rw [← List.sum_append_nat, ← List.map_append, List.take_append_drop]
theorem spec_firstCon_eq {D : List RDecl} (hD : D.length ≤ 1048576) (hn : nc D ≤ 1048576) {i : Nat} (hi : i ≤ D.length) {N : Nat} (hN : 2000000 ≤ N) : spec_firstCon N D i = some (nc (D.take i) : Int) := by
 unfold spec_firstCon
 have key : ∀ {N j : Nat}, j ≤ i → i - j < N → spec_firstCon_L1 D i N (nc (D.take j)) j = some (nc (D.take i) : Int) := by
  intro N j hj hN
  refine loop_ind i (fun N j => spec_firstCon_L1 D i N (nc (D.take j)) j = some (nc (D.take i) : Int)) ?_ ?_ hj hN
  ·intro n; rw [spec_firstCon_L1, if_neg (by simp)]
  ·intro n j hj ih
   obtain ⟨d, hd, _⟩ := at_lt (l := D) (i := j) (by omega)
   have hs := nc_split D (j + 1)
   have ht := nc_take hd
   rw [spec_firstCon_L1, if_pos (by simp; omega), get_lt hd]
   simp only [Option.bind_some]
   rw [len_def, w_id (n := (j : Int) + 1) (by omega) (by omega), w_id (by omega) (by omega), show ((nc (D.take j) : Int) + (d.cons.length : Int)) = ((nc (D.take (j + 1)) : Nat) : Int) by omega, show ((j : Int) + 1) = ((j + 1 : Nat) : Int) by omega]
   exact ih
 have := key (Nat.zero_le _) (by omega : i - 0 < N)
 rw [show (((nc (D.take 0) : Nat) : Int)) = 0 from rfl, show (((0 : Nat) : Int)) = 0 from rfl] at this
 rw [this]; rfl
theorem impl_conCount_eq {D : List RDecl} (hD : D.length ≤ 1048576) (hn : nc D ≤ 1048576) {N : Nat} (hN : 2000000 ≤ N) : impl_conCount N D = some (nc D : Int) := by
 unfold impl_conCount
 have key : ∀ {N j : Nat}, j ≤ D.length → D.length - j < N → impl_conCount_L1 D N (nc (D.take j)) j = some (nc D : Int) := by
  intro N j hj hN
  refine loop_ind D.length (fun N j => impl_conCount_L1 D N (nc (D.take j)) j = some (nc D : Int)) ?_ ?_ hj hN
  ·intro n; rw [impl_conCount_L1, if_neg (by simp [len_def]), List.take_length]
  ·intro n j hj ih
   obtain ⟨d, hd, _⟩ := at_lt hj
   have hs := nc_split D (j + 1)
   have ht := nc_take hd
   rw [impl_conCount_L1, if_pos (by simp [len_def]; omega), get_lt hd]
   simp only [Option.bind_some]
   rw [len_def, w_id (n := (j : Int) + 1) (by omega) (by omega), w_id (by omega) (by omega), show ((nc (D.take j) : Int) + (d.cons.length : Int)) = ((nc (D.take (j + 1)) : Nat) : Int) by omega, show ((j : Int) + 1) = ((j + 1 : Nat) : Int) by omega]
   exact ih
 have := key (Nat.zero_le _) (by omega : D.length - 0 < N)
 rw [show (((nc (D.take 0) : Nat) : Int)) = 0 from rfl, show (((0 : Nat) : Int)) = 0 from rfl] at this
 rw [this]; rfl
def conF : List RDecl → Nat → Nat → Option (Nat × RCon)
 | [], _, _ => none
 | d :: r, k, c => match d.cons[c]? with
  | some x => some (k + 1, x)
  | none => conF r (k + 1) (c - d.cons.length)
theorem conF_some : ∀ (D : List RDecl) (k c : Nat), c < nc D → ∃ t x, conF D k c = some (t, x) ∧ k < t ∧ t ≤ k + D.length
 | [], k, c, h => by simp [nc] at h
 | d :: r, k, c, h => by
  unfold conF
  cases hx : d.cons[c]? with
  | some x => exact ⟨k + 1, x, rfl, by omega, by simp⟩
  | none =>
   have hc : d.cons.length ≤ c := by simpa using hx
   obtain ⟨t, x, h1, h2, h3⟩ := conF_some r (k + 1) (c - d.cons.length) (by simp [nc] at h ⊢; omega)
   exact ⟨t, x, h1, by omega, by simp; omega⟩
theorem impl_conAt_eq {D : List RDecl} (hD : D.length ≤ 1048576) (hn : nc D ≤ 1048576) {c : Nat} (hc : c < nc D) {N : Nat} (hN : 2000000 ≤ N) : ∃ t x, conF D 0 c = some (t, x) ∧ impl_conAt N D c = some ((t : Int), x) := by
 have key : ∀ (m j N c : Nat), D.length - j = m → j ≤ D.length → m < N → c < nc (D.drop j) → ∃ t x, conF (D.drop j) j c = some (t, x) ∧ impl_conAt_L1 D N c j = some (.inl ((t : Int), x)) := by
  intro m
  induction m with
  | zero =>
   intro j N c h1 h2 _ h3
   rw [List.drop_eq_nil_of_le (by omega)] at h3; simp [nc] at h3
  | succ m ih =>
   intro j N c h1 h2 h3 h4
   obtain ⟨N, rfl⟩ : ∃ n, N = n + 1 := ⟨N - 1, by omega⟩
   obtain ⟨d, hd, _⟩ := at_lt (l := D) (i := j) (by omega)
   have hs := nc_split D j
   rw [nc_drop hd] at h4 hs
   rw [drop_cons hd]
   unfold conF
   rw [impl_conAt_L1, if_pos (by simp [len_def]; omega), get_lt hd]
   simp only [Option.bind_some]
   rw [if_pos (by simp), len_def, w_id (n := (j : Int) + 1) (by omega) (by omega), w_id (by omega) (by omega)]
   cases hx : d.cons[c]? with
   | some x =>
    have hlt := (List.getElem?_eq_some_iff.1 hx).1
    refine ⟨j + 1, x, rfl, ?_⟩
    have e : ((c : Int) < (d.cons.length : Int)) := by omega
    simp [e, get_lt hx]
   | none =>
    have hle : d.cons.length ≤ c := by simpa using hx
    obtain ⟨t, x, g1, g2⟩ := ih (j + 1) N (c - d.cons.length) (by omega) (by omega) (by omega) (by omega)
    refine ⟨t, x, g1, ?_⟩
    have e : ¬ ((c : Int) < (d.cons.length : Int)) := by omega
    rw [← g2, show ((c : Int) - (d.cons.length : Int)) = ((c - d.cons.length : Nat) : Int) by omega, show ((j : Int) + 1) = ((j + 1 : Nat) : Int) by omega]
    simp [e]
 obtain ⟨t, x, g1, g2⟩ := key D.length 0 N c (by omega) (by omega) (by omega) (by simpa using hc)
 refine ⟨t, x, by simpa using g1, ?_⟩
 unfold impl_conAt
 rw [show (((0 : Nat) : Int)) = 0 from rfl] at g2
 rw [g2]; rfl
end RC
namespace RC
open Go
theorem spec_conType_in {D : List RDecl} (hD : D.length ≤ 1048576) (hn : nc D ≤ 1048576) {c : Nat} (hc : c < nc D) {N : Nat} (hN : 2000000 ≤ N) : ∃ t x, conF D 0 c = some (t, x) ∧ spec_conType N D c = some (t : Int) := by
 have key : ∀ (m j M c : Nat), D.length - j = m → j ≤ D.length → m < M → c < nc (D.drop j) → ∃ t x, conF (D.drop j) j c = some (t, x) ∧ spec_conType_L1 N D ((nc (D.take j) + c : Nat) : Int) M j = some (.inl (t : Int)) := by
  intro m
  induction m with
  | zero =>
   intro j M c h1 h2 _ h3
   rw [List.drop_eq_nil_of_le (by omega)] at h3; simp [nc] at h3
  | succ m ih =>
   intro j M c h1 h2 h3 h4
   obtain ⟨M, rfl⟩ : ∃ n, M = n + 1 := ⟨M - 1, by omega⟩
   obtain ⟨d, hd, _⟩ := at_lt (l := D) (i := j) (by omega)
   have hs := nc_split D j
   rw [nc_drop hd] at h4 hs
   have ht := nc_take hd
   rw [drop_cons hd]
   unfold conF
   rw [spec_conType_L1, if_pos (by simp [len_def]; omega), spec_firstCon_eq hD hn (by omega) hN, get_lt hd]
   simp only [Option.bind_some]
   rw [len_def, w_id (n := (j : Int) + 1) (by omega) (by omega), w_id (n := (nc (D.take j) : Int) + (d.cons.length : Int)) (by omega) (by omega), w_id (by omega) (by omega), inRange_eq]
   simp only [Option.bind_some]
   cases hx : d.cons[c]? with
   | some x =>
    have hlt := (List.getElem?_eq_some_iff.1 hx).1
    refine ⟨j + 1, x, rfl, ?_⟩
    rw [if_pos (by simp; omega)]
    rfl
   | none =>
    have hle : d.cons.length ≤ c := by simpa using hx
    obtain ⟨t, x, g1, g2⟩ := ih (j + 1) M (c - d.cons.length) (by omega) (by omega) (by omega) (by omega)
    refine ⟨t, x, g1, ?_⟩
    rw [if_neg (by simp; omega), ← g2, show nc (D.take j) + c = nc (D.take (j + 1)) + (c - d.cons.length) by omega]
    rfl
 obtain ⟨t, x, g1, g2⟩ := key D.length 0 N c (by omega) (by omega) (by omega) (by simpa using hc)
 refine ⟨t, x, by simpa using g1, ?_⟩
 unfold spec_conType
 rw [show nc (D.take 0) + c = c by simp [nc], show (((0 : Nat) : Int)) = 0 from rfl] at g2
 rw [g2]; rfl
theorem spec_conType_out {D : List RDecl} (hD : D.length ≤ 1048576) (hn : nc D ≤ 1048576) {c : Int} (hc : c < 0 ∨ (nc D : Int) ≤ c) {N : Nat} (hN : 2000000 ≤ N) : spec_conType N D c = some (-1) := by
 unfold spec_conType
 have key : ∀ {M j : Nat}, j ≤ D.length → D.length - j < M → spec_conType_L1 N D c M j = some (.inr ()) := by
  intro M j hj hM
  refine loop_ind D.length (fun M j => spec_conType_L1 N D c M j = some (.inr ())) ?_ ?_ hj hM
  ·intro n; rw [spec_conType_L1, if_neg (by simp [len_def])]
  ·intro n j hj ih
   obtain ⟨d, hd, _⟩ := at_lt hj
   have hs := nc_split D (j + 1)
   have ht := nc_take hd
   rw [spec_conType_L1, if_pos (by simp [len_def]; omega), spec_firstCon_eq hD hn (by omega) hN, get_lt hd]
   simp only [Option.bind_some]
   rw [len_def, w_id (n := (j : Int) + 1) (by omega) (by omega), w_id (n := (nc (D.take j) : Int) + (d.cons.length : Int)) (by omega) (by omega), w_id (by omega) (by omega), inRange_eq]
   simp only [Option.bind_some]
   rw [if_neg (by simp; omega)]
   exact ih
 have := key (Nat.zero_le _) (by omega : D.length - 0 < N)
 rw [show (((0 : Nat) : Int)) = 0 from rfl] at this
 rw [this]; rfl
end RC
namespace RC
open Go
theorem conF_spec {D : List RDecl} : ∀ (m j c t : Nat) (x : RCon), D.length - j = m → j ≤ D.length → conF (D.drop j) j c = some (t, x) → ∃ d, 1 ≤ t ∧ D[t - 1]? = some d ∧ nc (D.take (t - 1)) ≤ nc (D.take j) + c ∧ d.cons[nc (D.take j) + c - nc (D.take (t - 1))]? = some x := by
 intro m
 induction m with
 | zero =>
  intro j c t x h1 h2 h
  rw [List.drop_eq_nil_of_le (by omega)] at h; simp [conF] at h
 | succ m ih =>
  intro j c t x h1 h2 h
  obtain ⟨d, hd, _⟩ := at_lt (l := D) (i := j) (by omega)
  have ht := nc_take hd
  rw [drop_cons hd] at h
  unfold conF at h
  cases hx : d.cons[c]? with
  | some y =>
   rw [hx] at h
   simp only [Option.some.injEq, Prod.mk.injEq] at h
   obtain ⟨rfl, rfl⟩ := h
   exact ⟨d, by omega, by simpa using hd, by simp, by simpa using hx⟩
  | none =>
   rw [hx] at h
   have hle : d.cons.length ≤ c := by simpa using hx
   obtain ⟨e, g1, g2, g3, g4⟩ := ih (j + 1) (c - d.cons.length) t x (by omega) (by omega) h
   rw [show nc (D.take (j + 1)) + (c - d.cons.length) = nc (D.take j) + c by omega] at g3 g4
   exact ⟨e, g1, g2, g3, g4⟩
theorem spec_conFields_eq {D : List RDecl} (hD : D.length ≤ 1048576) (hn : nc D ≤ 1048576) {c : Nat} (hc : c < nc D) {N : Nat} (hN : 2000000 ≤ N) : ∃ t x, conF D 0 c = some (t, x) ∧ spec_conFields N D c = some x.fields := by
 obtain ⟨t, x, e1, e2⟩ := spec_conType_in hD hn hc hN
 obtain ⟨d, g1, g2, g3, g4⟩ := conF_spec (D := D) D.length 0 c t x (by omega) (by omega) (by simpa using e1)
 have hlt := (List.getElem?_eq_some_iff.1 g2).1
 have hs := nc_split D (t - 1)
 rw [show nc (D.take 0) + c = c by simp [nc]] at g3 g4
 refine ⟨t, x, e1, ?_⟩
 unfold spec_conFields
 rw [e2]
 simp only [Option.bind_some]
 rw [if_neg (by simp; omega), w_id (n := (t : Int) - 1) (by omega) (by omega), show ((t : Int) - 1) = ((t - 1 : Nat) : Int) by omega, get_lt g2, spec_firstCon_eq hD hn (by omega) hN]
 simp only [Option.bind_some]
 rw [w_id (by omega) (by omega), show ((c : Int) - (nc (D.take (t - 1)) : Int)) = ((c - nc (D.take (t - 1)) : Nat) : Int) by omega, get_lt g4]
 rfl
theorem impl_fieldsOf_eq {D : List RDecl} (hD : D.length ≤ 1048576) (hn : nc D ≤ 1048576) {c : Nat} (hc : c < nc D) {N : Nat} (hN : 2000000 ≤ N) : ∃ t x, conF D 0 c = some (t, x) ∧ impl_fieldsOf N D c = some x.fields := by
 obtain ⟨t, x, e1, e2⟩ := impl_conAt_eq hD hn hc hN
 exact ⟨t, x, e1, by unfold impl_fieldsOf; rw [e2]; rfl⟩
end RC
namespace RC
open Go
def consL (D : List RDecl) (t : Int) : List Int :=
 if 1 ≤ t ∧ t ≤ (D.length : Int) then (List.range ((D[(t - 1).toNat]?).elim 0 (·.cons.length))).map fun (i : Nat) => (nc (D.take (t - 1).toNat) : Int) + (i : Int) else []
theorem range_snoc {f : Nat → Int} {i : Nat} : (List.range (i + 1)).map f = (List.range i).map f ++ [f i] := by rw [List.range_succ, List.map_append]; rfl
theorem spec_consOf_eq {D : List RDecl} (hD : D.length ≤ 1048576) (hn : nc D ≤ 1048576) {t : Int} {N : Nat} (hN : 2000000 ≤ N) : spec_consOf N D t = some (consL D t) := by
 unfold spec_consOf consL
 rw [inRange_eq, len_def]
 simp only [Option.bind_some]
 by_cases h : 1 ≤ t ∧ t ≤ (D.length : Int)
 ·obtain ⟨a, ha⟩ : ∃ a : Nat, t = (a : Int) + 1 := ⟨(t - 1).toNat, by omega⟩
  subst ha
  obtain ⟨d, hd, _⟩ := at_lt (l := D) (i := a) (by omega)
  have hs := nc_split D (a + 1)
  have ht := nc_take hd
  rw [if_neg (by simp; omega), if_pos h, show (((a : Int) + 1) - 1).toNat = a by omega, hd]
  simp only [Option.elim_some]
  have key : ∀ {M i : Nat}, i ≤ d.cons.length → d.cons.length - i < M → spec_consOf_L1 N D ((a : Int) + 1) M i ((List.range i).map fun (i : Nat) => (nc (D.take a) : Int) + (i : Int)) = some ((List.range d.cons.length).map fun (i : Nat) => (nc (D.take a) : Int) + (i : Int)) := by
   intro M i hi hM
   refine loop_ind d.cons.length (fun M i => spec_consOf_L1 N D ((a : Int) + 1) M i ((List.range i).map fun (i : Nat) => (nc (D.take a) : Int) + (i : Int)) = some ((List.range d.cons.length).map fun (i : Nat) => (nc (D.take a) : Int) + (i : Int))) ?_ ?_ hi hM
   ·intro n
    rw [spec_consOf_L1, w_id (by omega) (by omega), show ((a : Int) + 1 - 1) = ((a : Nat) : Int) by omega, get_lt hd]
    simp only [Option.bind_some]
    rw [if_neg (by simp [len_def])]
   ·intro n i hi ih
    rw [spec_consOf_L1, w_id (n := (a : Int) + 1 - 1) (by omega) (by omega), show ((a : Int) + 1 - 1) = ((a : Nat) : Int) by omega, get_lt hd]
    simp only [Option.bind_some]
    rw [if_pos (by simp [len_def]; omega), spec_firstCon_eq hD hn (by omega) hN]
    simp only [Option.bind_some]
    rw [app_ok _ _ _ (by simp; omega) (by simp; omega), w_id (n := (i : Int) + 1) (by omega) (by omega), w_id (by omega) (by omega), show ((i : Int) + 1) = ((i + 1 : Nat) : Int) by omega]
    simp only [Option.bind_some]
    rw [← ih, range_snoc]
  have := key (Nat.zero_le _) (by omega : d.cons.length - 0 < N)
  rw [show (((0 : Nat) : Int)) = 0 from rfl, List.range_zero, List.map_nil] at this
  rw [this]; rfl
 ·rw [if_pos (by simp; omega), if_neg h]
theorem impl_consOf_eq {D : List RDecl} (hD : D.length ≤ 1048576) (hn : nc D ≤ 1048576) {t : Int} {N : Nat} (hN : 2000000 ≤ N) : impl_consOf N D t = some (consL D t) := by
 unfold impl_consOf consL
 rw [len_def]
 by_cases h : 1 ≤ t ∧ t ≤ (D.length : Int)
 ·obtain ⟨a, ha⟩ : ∃ a : Nat, t = (a : Int) + 1 := ⟨(t - 1).toNat, by omega⟩
  subst ha
  obtain ⟨d, hd, _⟩ := at_lt (l := D) (i := a) (by omega)
  have hs := nc_split D (a + 1)
  have hs0 := nc_split D a
  have ht := nc_take hd
  have e1 : ¬ ((a : Int) + 1 < 1) := by omega
  have e2 : ¬ ((D.length : Int) < (a : Int) + 1) := by omega
  rw [if_pos h, show (((a : Int) + 1) - 1).toNat = a by omega, hd, w_id (by omega) (by omega), show ((a : Int) + 1 - 1) = ((a : Nat) : Int) by omega, sl_take (by omega) (by omega), get_lt hd]
  simp only [Option.elim_some, e1, e2, decide_false, Bool.false_eq_true, if_false, Option.bind_some]
  rw [impl_conCount_eq (by simp; omega) (by omega) hN]
  simp only [Option.bind_some]
  have key : ∀ {M i : Nat}, i ≤ d.cons.length → d.cons.length - i < M → impl_consOf_L1 d (nc (D.take a) : Int) M i ((List.range i).map fun (i : Nat) => (nc (D.take a) : Int) + (i : Int)) = some ((List.range d.cons.length).map fun (i : Nat) => (nc (D.take a) : Int) + (i : Int)) := by
   intro M i hi hM
   refine loop_ind d.cons.length (fun M i => impl_consOf_L1 d (nc (D.take a) : Int) M i ((List.range i).map fun (i : Nat) => (nc (D.take a) : Int) + (i : Int)) = some ((List.range d.cons.length).map fun (i : Nat) => (nc (D.take a) : Int) + (i : Int))) ?_ ?_ hi hM
   ·intro n; rw [impl_consOf_L1, if_neg (by simp [len_def])]
   ·intro n i hi ih
    rw [impl_consOf_L1, if_pos (by simp [len_def]; omega)]
    rw [app_ok _ _ _ (by simp; omega) (by simp; omega), w_id (n := (i : Int) + 1) (by omega) (by omega), w_id (by omega) (by omega), show ((i : Int) + 1) = ((i + 1 : Nat) : Int) by omega]
    simp only [Option.bind_some]
    rw [← ih, range_snoc]
  have := key (Nat.zero_le _) (by omega : d.cons.length - 0 < N)
  rw [show (((0 : Nat) : Int)) = 0 from rfl, List.range_zero, List.map_nil] at this
  rw [this]; rfl
 ·rw [if_neg h]
  by_cases e1 : t < 1
  ·simp [e1]
  ·have e2 : (D.length : Int) < t := by omega
   simp [e1, e2]
end RC



namespace RC
open Go
theorem sz_list {α : Type} {l : List α} (f : α → Nat) (L : Nat → Int → Int → Option (Int ⊕ Int)) (h0 : ∀ n left, L (n + 1) left (l.length : Int) = some (.inr left))
  (hs : ∀ n (i : Nat) x left, l[i]? = some x → 0 ≤ left → left ≤ 1048576 → L (n + 1) left (i : Int) = if left - (f x : Int) < 0 then some (.inl (-1)) else L n (left - (f x : Int)) ((i + 1 : Nat) : Int))
  {N : Nat} (hN : l.length < N) {left : Int} (hl0 : 0 ≤ left) (hl1 : left ≤ 1048576) : L N left 0 = some (if left - ((l.map f).sum : Nat) < 0 then .inl (-1) else .inr (left - ((l.map f).sum : Nat))) := by
 have key : ∀ {N i : Nat}, i ≤ l.length → l.length - i < N → ∀ left : Int, 0 ≤ left → left ≤ 1048576 → L N left (i : Int) = some (if left - (((l.drop i).map f).sum : Nat) < 0 then .inl (-1) else .inr (left - (((l.drop i).map f).sum : Nat))) := by
  intro N i hi hN
  refine loop_ind l.length (fun N i => ∀ left : Int, 0 ≤ left → left ≤ 1048576 → L N left (i : Int) = some (if left - (((l.drop i).map f).sum : Nat) < 0 then .inl (-1) else .inr (left - (((l.drop i).map f).sum : Nat)))) ?_ ?_ hi hN
  ·intro n left a b
   rw [h0, List.drop_length]
   simp
   omega
  ·intro n i hi ih left a b
   obtain ⟨x, hx, _⟩ := at_lt hi
   rw [hs n i x left hx a b, drop_cons hx, List.map_cons, List.sum_cons]
   by_cases h : left - (f x : Int) < 0
   ·rw [if_pos h, if_pos (by omega)]
   ·rw [if_neg h, ih (left - (f x : Int)) (by omega) (by omega)]
    rw [show left - ((f x + (List.map f (l.drop (i + 1))).sum : Nat) : Int) = left - (f x : Int) - ((List.map f (l.drop (i + 1))).sum : Nat) by omega]
 have := key (Nat.zero_le _) (by omega : l.length - 0 < N) left hl0 hl1
 simpa using this
theorem to_list {α : Type} {l : List α} (L : Nat → Int → List α → Option (List α)) (h0 : ∀ n m, L (n + 1) (l.length : Int) m = some m)
  (hs : ∀ n (i : Nat) x m, l[i]? = some x → m.length = l.length → L (n + 1) (i : Int) m = L n ((i + 1 : Nat) : Int) (m.set i x)) {N : Nat} (hN : l.length < N) {m : List α} (hm : m.length = l.length) : L N 0 m = some l := by
 have key : ∀ {N i : Nat}, i ≤ l.length → l.length - i < N → ∀ m : List α, m.length = l.length → m.take i = l.take i → L N (i : Int) m = some l := by
  intro N i hi hN
  refine loop_ind l.length (fun N i => ∀ m : List α, m.length = l.length → m.take i = l.take i → L N (i : Int) m = some l) ?_ ?_ hi hN
  ·intro n m a b
   rw [h0]
   rw [List.take_length, ← a, List.take_length] at b
   rw [b]
  ·intro n i hi ih m a b
   obtain ⟨x, hx, _⟩ := at_lt hi
   rw [hs n i x m hx a]
   refine ih (m.set i x) (by simp [a]) ?_
   have hi' : (m.set i x)[i]? = some x := by rw [List.getElem?_set_self (by omega)]
   rw [take_snoc hi', take_snoc hx, ← b, List.take_set_of_le (Nat.le_refl _)]
 exact key (Nat.zero_le _) (by omega : l.length - 0 < N) m hm rfl
end RC



namespace RC
open Go
def lft (left : Int) (s : Nat) : Int := if left - s < 0 then -1 else left - s
theorem lft_neg {left : Int} {s : Nat} (h : left - s < 0) : lft left s = -1 := if_pos h
theorem lft_pos {left : Int} {s : Nat} (h : ¬ left - s < 0) : lft left s = left - s := if_neg h
def cz (c : RCon) : Nat := c.fields.length
def dz (d : RDecl) : Nat := d.cons.length + (d.cons.map cz).sum
def iz (i : RInstr) : Nat := i.args.length + i.jumps.length
def pz (p : RProc) : Nat := p.params.length + p.lent.length + (p.code.length + (p.code.map iz).sum)
def imz (x : RImage) : Nat := (x.decls.length + (x.decls.map dz).sum) + (x.procs.length + (x.procs.map pz).sum)
theorem szCon_eq {c : RCon} (hc : RConIn c) {left : Int} (h0 : 0 ≤ left) (h1 : left ≤ 1048576) : laws_szCon c left = some (lft left (cz c)) := by
 unfold laws_szCon
 rw [szIntS_eq h0 h1 hc.fields.2]
 unfold lft cz
 by_cases h : left - (c.fields.length : Int) < 0
 ·rw [if_pos h]; rfl
 ·rw [if_neg h]; simp [h]
theorem szConS_eq {l : List RCon} (hl : ListIn RConIn l) {left : Int} (h0 : 0 ≤ left) (h1 : left ≤ 1048576) {N : Nat} (hN : 2000000 ≤ N) : laws_szConS N l left = some (lft left (l.length + (l.map cz).sum)) := by
 unfold laws_szConS
 have hlen := hl.2
 rw [len_def, w_id (by omega) (by omega)]
 by_cases h : left - (l.length : Int) < 0
 ·rw [if_pos (by simpa using h), lft_neg (by omega)]
 ·rw [if_neg (by simpa using h), sz_list (l := l) cz (laws_szConS_L1 l) (fun n left => by rw [laws_szConS_L1, if_neg (by simp [len_def])]) (fun n i x left hx a b => ?_) (by omega) (by omega) (by omega)]
  ·by_cases g : left - (l.length : Int) - ((l.map cz).sum : Nat) < 0
   ·rw [if_pos g, lft_neg (by omega)]; rfl
   ·rw [if_neg g, lft_pos (by omega)]
    show some _ = some _
    congr 1; omega
  ·have hi := (List.getElem?_eq_some_iff.1 hx).1
   rw [laws_szConS_L1, if_pos (by simp [len_def]; omega), get_lt hx]
   simp only [Option.bind_some]
   rw [szCon_eq (hl.1 x (List.mem_of_getElem? hx)) a b, w_id (by omega) (by omega), show ((i : Int) + 1) = ((i + 1 : Nat) : Int) by omega]
   simp only [Option.bind_some]
   by_cases g : left - (cz x : Int) < 0
   ·rw [if_pos g, lft_neg g]; rfl
   ·rw [if_neg g, lft_pos g, if_neg (by simpa using g)]
end RC
namespace RC
open Go
theorem szDecl_eq {d : RDecl} (hd : RDeclIn d) {left : Int} (h0 : 0 ≤ left) (h1 : left ≤ 1048576) {N : Nat} (hN : 2000000 ≤ N) : laws_szDecl N d left = some (lft left (dz d)) := by
 unfold laws_szDecl
 rw [szConS_eq hd.cons h0 h1 hN]
 simp only [Option.bind_some]
 by_cases a : left - ((d.cons.length + (d.cons.map cz).sum : Nat) : Int) < 0
 ·rw [lft_neg a, lft_neg (by unfold dz; omega)]; rfl
 ·rw [lft_pos a, if_neg (by simpa using a), lft_pos (by unfold dz; omega)]; rfl
theorem szDeclS_eq {l : List RDecl} (hl : ListIn RDeclIn l) {left : Int} (h0 : 0 ≤ left) (h1 : left ≤ 1048576) {N : Nat} (hN : 2000000 ≤ N) : laws_szDeclS N l left = some (lft left (l.length + (l.map dz).sum)) := by
 unfold laws_szDeclS
 have hlen := hl.2
 rw [len_def, w_id (by omega) (by omega)]
 by_cases h : left - (l.length : Int) < 0
 ·rw [if_pos (by simpa using h), lft_neg (by omega)]
 ·rw [if_neg (by simpa using h), sz_list (l := l) dz (laws_szDeclS_L1 N l) (fun n left => by rw [laws_szDeclS_L1, if_neg (by simp [len_def])]) (fun n i x left hx a b => ?_) (by omega) (by omega) (by omega)]
  ·by_cases g : left - (l.length : Int) - ((l.map dz).sum : Nat) < 0
   ·rw [if_pos g, lft_neg (by omega)]; rfl
   ·rw [if_neg g, lft_pos (by omega)]
    show some _ = some _
    congr 1; omega
  ·have hi := (List.getElem?_eq_some_iff.1 hx).1
   rw [laws_szDeclS_L1, if_pos (by simp [len_def]; omega), get_lt hx]
   simp only [Option.bind_some]
   rw [szDecl_eq (hl.1 x (List.mem_of_getElem? hx)) a b hN, w_id (by omega) (by omega), show ((i : Int) + 1) = ((i + 1 : Nat) : Int) by omega]
   simp only [Option.bind_some]
   by_cases g : left - (dz x : Int) < 0
   ·rw [if_pos g, lft_neg g]; rfl
   ·rw [if_neg g, lft_pos g, if_neg (by simpa using g)]
theorem szInstr_eq {i : RInstr} (hi : RInstrIn i) {left : Int} (h0 : 0 ≤ left) (h1 : left ≤ 1048576) : laws_szInstr i left = some (lft left (iz i)) := by
 unfold laws_szInstr
 rw [szIntS_eq h0 h1 hi.args.2]
 simp only [Option.bind_some]
 by_cases a : left - (i.args.length : Int) < 0
 ·rw [if_pos a, lft_neg (by unfold iz; omega)]; rfl
 ·rw [if_neg a, if_neg (by simpa using a), szIntS_eq (by omega) (by omega) hi.jumps.2]
  simp only [Option.bind_some]
  by_cases b : left - (i.args.length : Int) - (i.jumps.length : Int) < 0
  ·rw [if_pos b, lft_neg (by unfold iz; omega)]; rfl
  ·rw [if_neg b, if_neg (by simpa using b), lft_pos (by unfold iz; omega)]
   congr 1; unfold iz; omega
theorem szInstrS_eq {l : List RInstr} (hl : ListIn RInstrIn l) {left : Int} (h0 : 0 ≤ left) (h1 : left ≤ 1048576) {N : Nat} (hN : 2000000 ≤ N) : laws_szInstrS N l left = some (lft left (l.length + (l.map iz).sum)) := by
 unfold laws_szInstrS
 have hlen := hl.2
 rw [len_def, w_id (by omega) (by omega)]
 by_cases h : left - (l.length : Int) < 0
 ·rw [if_pos (by simpa using h), lft_neg (by omega)]
 ·rw [if_neg (by simpa using h), sz_list (l := l) iz (laws_szInstrS_L1 l) (fun n left => by rw [laws_szInstrS_L1, if_neg (by simp [len_def])]) (fun n i x left hx a b => ?_) (by omega) (by omega) (by omega)]
  ·by_cases g : left - (l.length : Int) - ((l.map iz).sum : Nat) < 0
   ·rw [if_pos g, lft_neg (by omega)]; rfl
   ·rw [if_neg g, lft_pos (by omega)]
    show some _ = some _
    congr 1; omega
  ·have hi := (List.getElem?_eq_some_iff.1 hx).1
   rw [laws_szInstrS_L1, if_pos (by simp [len_def]; omega), get_lt hx]
   simp only [Option.bind_some]
   rw [szInstr_eq (hl.1 x (List.mem_of_getElem? hx)) a b, w_id (by omega) (by omega), show ((i : Int) + 1) = ((i + 1 : Nat) : Int) by omega]
   simp only [Option.bind_some]
   by_cases g : left - (iz x : Int) < 0
   ·rw [if_pos g, lft_neg g]; rfl
   ·rw [if_neg g, lft_pos g, if_neg (by simpa using g)]
theorem szProc_eq {p : RProc} (hp : RProcIn p) {left : Int} (h0 : 0 ≤ left) (h1 : left ≤ 1048576) {N : Nat} (hN : 2000000 ≤ N) : laws_szProc N p left = some (lft left (pz p)) := by
 unfold laws_szProc
 rw [szIntS_eq h0 h1 hp.params.2]
 simp only [Option.bind_some]
 by_cases a : left - (p.params.length : Int) < 0
 ·rw [if_pos a, lft_neg (by unfold pz; omega)]; rfl
 ·rw [if_neg a, if_neg (by simpa using a), szIntS_eq (by omega) (by omega) hp.lent.2]
  simp only [Option.bind_some]
  by_cases b : left - (p.params.length : Int) - (p.lent.length : Int) < 0
  ·rw [if_pos b, lft_neg (by unfold pz; omega)]; rfl
  ·rw [if_neg b, if_neg (by simpa using b), szInstrS_eq hp.code (by omega) (by omega) hN]
   simp only [Option.bind_some]
   by_cases c : left - (p.params.length : Int) - (p.lent.length : Int) - ((p.code.length + (p.code.map iz).sum : Nat) : Int) < 0
   ·rw [lft_neg c, lft_neg (by unfold pz; omega)]; rfl
   ·rw [lft_pos c, if_neg (by simpa using c), lft_pos (by unfold pz; omega)]
    congr 1; unfold pz; omega
theorem szProcS_eq {l : List RProc} (hl : ListIn RProcIn l) {left : Int} (h0 : 0 ≤ left) (h1 : left ≤ 1048576) {N : Nat} (hN : 2000000 ≤ N) : laws_szProcS N l left = some (lft left (l.length + (l.map pz).sum)) := by
 unfold laws_szProcS
 have hlen := hl.2
 rw [len_def, w_id (by omega) (by omega)]
 by_cases h : left - (l.length : Int) < 0
 ·rw [if_pos (by simpa using h), lft_neg (by omega)]
 ·rw [if_neg (by simpa using h), sz_list (l := l) pz (laws_szProcS_L1 N l) (fun n left => by rw [laws_szProcS_L1, if_neg (by simp [len_def])]) (fun n i x left hx a b => ?_) (by omega) (by omega) (by omega)]
  ·by_cases g : left - (l.length : Int) - ((l.map pz).sum : Nat) < 0
   ·rw [if_pos g, lft_neg (by omega)]; rfl
   ·rw [if_neg g, lft_pos (by omega)]
    show some _ = some _
    congr 1; omega
  ·have hi := (List.getElem?_eq_some_iff.1 hx).1
   rw [laws_szProcS_L1, if_pos (by simp [len_def]; omega), get_lt hx]
   simp only [Option.bind_some]
   rw [szProc_eq (hl.1 x (List.mem_of_getElem? hx)) a b hN, w_id (by omega) (by omega), show ((i : Int) + 1) = ((i + 1 : Nat) : Int) by omega]
   simp only [Option.bind_some]
   by_cases g : left - (pz x : Int) < 0
   ·rw [if_pos g, lft_neg g]; rfl
   ·rw [if_neg g, lft_pos g, if_neg (by simpa using g)]
theorem szImage_eq {x : RImage} (hx : RImageIn x) {left : Int} (h0 : 0 ≤ left) (h1 : left ≤ 1048576) {N : Nat} (hN : 2000000 ≤ N) : laws_szImage N x left = some (lft left (imz x)) := by
 unfold laws_szImage
 rw [szDeclS_eq hx.decls h0 h1 hN]
 simp only [Option.bind_some]
 by_cases a : left - ((x.decls.length + (x.decls.map dz).sum : Nat) : Int) < 0
 ·rw [lft_neg a, lft_neg (by unfold imz; omega)]; rfl
 ·rw [lft_pos a, if_neg (by simpa using a), szProcS_eq hx.procs (by omega) (by omega) hN]
  simp only [Option.bind_some]
  by_cases b : left - ((x.decls.length + (x.decls.map dz).sum : Nat) : Int) - ((x.procs.length + (x.procs.map pz).sum : Nat) : Int) < 0
  ·rw [lft_neg b, lft_neg (by unfold imz; omega)]; rfl
  ·rw [lft_pos b, if_neg (by simpa using b), lft_pos (by unfold imz; omega)]
   congr 1; unfold imz; omega
end RC



namespace RC
open Go
def regB (r : Int) (a : Int) : Bool := decide (0 ≤ a) && decide (a < r)
def jmpB (at_ L : Int) (j : Int) : Bool := decide (at_ < j) && decide (j < L)
theorem spec_args_eq {i : RInstr} {p : RProc} (r1 : 1 ≤ p.regs) (r2 : p.regs ≤ 2000) (hl : i.args.length ≤ 1048576) {N : Nat} (hN : 2000000 ≤ N) : spec_validInstr_L1 i p N 0 = some (if i.args.all (regB p.regs) = true then .inr () else .inl false) := by
 rw [all_loop (l := i.args) (spec_validInstr_L1 i p) (fun _ a => regB p.regs a) (fun n => by rw [spec_validInstr_L1, if_neg (by simp [len_def])]) (fun n k x hx => ?_) (by omega), allAt_all]
 have hk := (List.getElem?_eq_some_iff.1 hx).1
 rw [spec_validInstr_L1, if_pos (by simp [len_def]; omega), get_lt hx]
 simp only [Option.bind_some]
 rw [inRange_eq, w_id (by omega) (by omega), w_id (by omega) (by omega)]
 have e : decide (x ≤ p.regs - 1) = decide (x < p.regs) := decide_eq_decide.2 (by omega)
 rw [e]
 simp only [Option.bind_some]
 unfold regB
 cases h : (decide (0 ≤ x) && decide (x < p.regs)) <;> simp
theorem impl_args_eq {i : RInstr} {p : RProc} (hl : i.args.length ≤ 1048576) {N : Nat} (hN : 2000000 ≤ N) : impl_signatures_instrValid_L1 p i N 0 = some (if i.args.all (regB p.regs) = true then .inr () else .inl false) := by
 rw [all_loop (l := i.args) (impl_signatures_instrValid_L1 p i) (fun _ a => regB p.regs a) (fun n => by rw [impl_signatures_instrValid_L1, if_neg (by simp [len_def])]) (fun n k x hx => ?_) (by omega), allAt_all]
 have hk := (List.getElem?_eq_some_iff.1 hx).1
 rw [impl_signatures_instrValid_L1, if_pos (by simp [len_def]; omega), get_lt hx, w_id (by omega) (by omega)]
 simp only [Option.bind_some]
 unfold regB
 by_cases h1 : x < 0
 ·have : ¬ 0 ≤ x := by omega
  simp [h1, this]
 ·have h2 : 0 ≤ x := by omega
  by_cases h3 : p.regs ≤ x
  ·have : ¬ x < p.regs := by omega
   simp [h1, h2, h3, this]
  ·have : x < p.regs := by omega
   simp [h1, h2, h3, this]
theorem spec_jumps_eq {l : List Int} {n a L : Int} (hl : l.length ≤ 1048576) (ha : 0 ≤ a) (ha2 : a ≤ 2000) (hL : 0 ≤ L) (hL2 : L ≤ 2000) {N : Nat} (hN : 2000000 ≤ N) : spec_validJumps N l n a L = some (decide ((l.length : Int) = n) && l.all (jmpB a L)) := by
 unfold spec_validJumps
 rw [len_def]
 by_cases h : (l.length : Int) = n
 ·subst h
  rw [all_loop (l := l) (spec_validJumps_L1 l l.length a L) (fun _ j => jmpB a L j) (fun n => by rw [spec_validJumps_L1, if_neg (by simp)]) (fun n k x hx => ?_) (by omega), allAt_all, cont_all]
  ·cases h : l.all (jmpB a L) <;> simp
  ·have hk := (List.getElem?_eq_some_iff.1 hx).1
   rw [spec_validJumps_L1, if_pos (by simp; omega), get_lt hx]
   simp only [Option.bind_some]
   rw [inRange_eq, w_id (by omega) (by omega), w_id (by omega) (by omega), w_id (by omega) (by omega)]
   have e1 : decide (a + 1 ≤ x) = decide (a < x) := decide_eq_decide.2 (by omega)
   have e2 : decide (x ≤ L - 1) = decide (x < L) := decide_eq_decide.2 (by omega)
   rw [e1, e2]
   simp only [Option.bind_some]
   unfold jmpB
   cases h : (decide (a < x) && decide (x < L)) <;> simp
 ·simp [h]
theorem closure_eq {a : Int} {p : RProc} (x : Int) : impl_signatures_instrValid_1 a p.params p.lent p.result p.regs p.code x = some (jmpB a p.code.length x) := by
 unfold impl_signatures_instrValid_1 jmpB
 rw [len_def]
 by_cases h : a < x <;> simp [h]
theorem contains_L1 {a : Int} {p : RProc} {l : List Int} (hl : l.length ≤ 1048576) {N i : Nat} (hi : i ≤ l.length) (hN : l.length - i < N) :
  ∃ r, slices_IndexFunc_int_int_L1 a p.params p.lent p.result p.regs p.code l N (i : Int) = some r ∧ ((l.drop i).all (jmpB a p.code.length) = true → r = .inr ()) ∧ ((l.drop i).all (jmpB a p.code.length) = false → ∃ k : Nat, r = .inl (k : Int)) := by
 refine loop_ind l.length (fun N i => ∃ r, slices_IndexFunc_int_int_L1 a p.params p.lent p.result p.regs p.code l N (i : Int) = some r ∧ ((l.drop i).all (jmpB a p.code.length) = true → r = .inr ()) ∧ ((l.drop i).all (jmpB a p.code.length) = false → ∃ k : Nat, r = .inl (k : Int))) ?_ ?_ hi hN
 ·intro n
  exact ⟨.inr (), by rw [slices_IndexFunc_int_int_L1, if_neg (by simp [len_def])], fun _ => rfl, fun h => by simp at h⟩
 ·intro n i hi ⟨r, h1, h2, h3⟩
  obtain ⟨x, hx, _⟩ := at_lt hi
  rw [slices_IndexFunc_int_int_L1, if_pos (by simp [len_def]; omega), get_lt hx]
  simp only [Option.bind_some]
  unfold impl_signatures_instrValid_2
  rw [closure_eq, all_drop hx]
  simp only [Option.bind_some]
  cases hj : jmpB a p.code.length x with
  | false => exact ⟨.inl (i : Int), by simp, fun h => by simp at h, fun _ => ⟨i, rfl⟩⟩
  | true =>
   refine ⟨r, ?_, fun h => h2 (by simpa using h), fun h => h3 (by simpa using h)⟩
   rw [w_id (by omega) (by omega), show ((i : Int) + 1) = ((i + 1 : Nat) : Int) by omega, h1]
   simp
theorem contains_eq {a : Int} {p : RProc} {l : List Int} (hl : l.length ≤ 1048576) {N : Nat} (hN : 2000000 ≤ N) : slices_ContainsFunc_int_int N a p.params p.lent p.result p.regs p.code l = some (!l.all (jmpB a p.code.length)) := by
 unfold slices_ContainsFunc_int_int slices_IndexFunc_int_int
 obtain ⟨r, h1, h2, h3⟩ := contains_L1 (a := a) (p := p) hl (Nat.zero_le _) (by omega : l.length - 0 < N)
 rw [show ((0 : Nat) : Int) = 0 from rfl] at h1
 rw [List.drop_zero] at h2 h3
 rw [h1]
 cases h : l.all (jmpB a p.code.length) with
 | true => rw [h2 h]; rfl
 | false =>
  obtain ⟨k, hk⟩ := h3 h
  rw [hk]
  simp
end RC


namespace RC
open Go
structure IOK (im : RImage) (p : RProc) (at_ : Nat) (i : RInstr) : Prop where
 code : p.code[at_]? = some i
 r1 : 1 ≤ p.regs
 r2 : p.regs ≤ 2000
 cl : p.code.length ≤ 2000
 al : i.args.length ≤ 1048576
 jl : i.jumps.length ≤ 1048576
 dl : im.decls.length ≤ 1048576
 nn : nc im.decls ≤ 1048576
 pl : im.procs.length ≤ 1048576
 pp : ∀ q ∈ im.procs, q.params.length ≤ 1048576
theorem IOK.at {im : RImage} {p : RProc} {at_ : Nat} {i : RInstr} (H : IOK im p at_ i) : at_ < p.code.length := (List.getElem?_eq_some_iff.1 H.code).1
def setsB (op : Int) : Bool := (decide (0 ≤ op) && decide (op ≤ 11) && !decide (op = 7) && !decide (op = 8)) || decide (op = 18) || decide (op = 19)
theorem spec_sets_eq (op : Int) : spec_sets op = some (setsB op) := by
 unfold spec_sets spec_defines setsB
 rw [inRange_eq]
 simp only [Option.bind_some]
 by_cases h1 : 0 ≤ op <;> by_cases h2 : op ≤ 11 <;> by_cases h3 : op = 7 <;> by_cases h4 : op = 8 <;> by_cases h5 : op = 18 <;> simp [h1, h2, h3, h4, h5] <;> omega
theorem impl_sets_eq {op : Int} (h7 : op ≠ 7) (h8 : op ≠ 8) : impl_setsRegister op = some (setsB op) := by
 unfold impl_setsRegister setsB
 by_cases h1 : 0 ≤ op <;> by_cases h2 : op ≤ 11 <;> by_cases h5 : op = 18 <;> simp [h1, h2, h7, h8, h5] <;> omega
def specMain (N : Nat) (p0 : RImage) (p1 : RProc) (p2 : Int) (c3 : RInstr) : Option Bool :=
 if (decide (c3.op = 0)) = true then
  Option.bind (
   if (decide ((Sh.len c3.args) = 0)) = true then
    Option.bind (spec_inRange c3.num (-999) 999) fun q23 =>
    some q23
   else
    some false
  ) fun t20 =>
  some t20
 else
  Option.bind (
   if (decide (c3.op = 1)) = true then
    some true
   else
   if (decide (c3.op = 2)) = true then
    some true
   else
   if (decide (c3.op = 3)) = true then
    some true
   else
   if (decide (c3.op = 4)) = true then
    some true
   else
    some (decide (c3.op = 11))
  ) fun t25 =>
  if t25 = true then
   Option.bind (
    if (decide ((Sh.len c3.args) = 2)) = true then
     some (decide (c3.num = 0))
    else
     some false
   ) fun t29 =>
   some t29
  else
   Option.bind (
    if (decide (c3.op = 5)) = true then
     some true
    else
    if (decide (c3.op = 14)) = true then
     some true
    else
    if (decide (c3.op = 15)) = true then
     some true
    else
    if (decide (c3.op = 18)) = true then
     some true
    else
     some (decide (c3.op = 23))
   ) fun t33 =>
   if t33 = true then
    Option.bind (
     if (decide ((Sh.len c3.args) = 1)) = true then
      some (decide (c3.num = 0))
     else
      some false
    ) fun t37 =>
    some t37
   else
   if (decide (c3.op = 6)) = true then
    Option.bind (
     Option.bind (spec_conType N p0.decls c3.num) fun q45 =>
     if (decide (0 < q45)) = true then
      Option.bind (spec_conFields N p0.decls c3.num) fun q47 =>
      if (decide ((Sh.len c3.args) = (Sh.len q47))) = true then
       Option.bind (spec_inRange c3.into 0 p1.regs) fun q49 =>
       some q49
      else
       some false
     else
      some false
    ) fun t43 =>
    some t43
   else
    Option.bind (
     if (decide (c3.op = 9)) = true then
      some true
     else
      some (decide (c3.op = 24))
    ) fun t51 =>
    if t51 = true then
     Option.bind (spec_procWith p0 c3.num (Sh.len c3.args) 0) fun q55 =>
     some q55
    else
    if (decide (c3.op = 10)) = true then
     Option.bind (
      Option.bind (spec_procWith p0 c3.num (Sh.len c3.args) 1) fun q61 =>
      if q61 = true then
       Option.bind (Sh.get p0.procs c3.num) fun c63 =>
       some (decide ((Sh.len c63.lent) = 0))
      else
       some false
     ) fun t59 =>
     some t59
    else
     Option.bind (
      if (decide (c3.op = 16)) = true then
       some true
      else
       some (decide (c3.op = 17))
     ) fun t65 =>
     if t65 = true then
      Option.bind (
       Option.bind (spec_inRange (Sh.len c3.args) 1 4) fun q71 =>
       if q71 = true then
        some (decide (c3.num = 0))
       else
        some false
      ) fun t69 =>
      some t69
     else
     if (decide (c3.op = 19)) = true then
      Option.bind (
       if (decide ((Sh.len c3.args) = 1)) = true then
        Option.bind (spec_inRange c3.num 0 2) fun q79 =>
        some q79
       else
        some false
      ) fun t76 =>
      some t76
     else
     if (decide (c3.op = 20)) = true then
      Option.bind (
       if (decide ((Sh.len c3.args) = 1)) = true then
        Option.bind (spec_inRange c3.num (Sh.w (p2 + 1)) (Sh.w ((Sh.len p1.code) - 1))) fun q86 =>
        some q86
       else
        some false
      ) fun t83 =>
      some t83
     else
     if (decide (c3.op = 22)) = true then
      Option.bind (
       if (decide ((Sh.len c3.args) = 0)) = true then
        Option.bind (spec_inRange c3.num (Sh.w (p2 + 1)) (Sh.w ((Sh.len p1.code) - 1))) fun q93 =>
        some q93
       else
        some false
      ) fun t90 =>
      some t90
     else
     if (decide (c3.op = 21)) = true then
      Option.bind (spec_consOf N p0.decls c3.num) fun q97 =>
      Option.bind (
       if (decide ((Sh.len c3.args) = 1)) = true then
        if (decide (0 < (Sh.len q97))) = true then
         Option.bind (spec_validJumps N c3.jumps (Sh.len q97) p2 (Sh.len p1.code)) fun q103 =>
         some q103
        else
         some false
       else
        some false
      ) fun t99 =>
      some t99
     else
      some false
def implMain (N : Nat) (p0 : RSignatures) (p1 : RProc) (p2 : Int) (p3 : RInstr) : Option Bool :=
 Option.bind (impl_signatures_numValid N p2 p1.params p1.lent p1.result p1.regs p1.code p0 p3) fun q27 =>
 if (!q27) = true then
  some false
 else
  Option.bind (impl_signatures_argsOf N p0 p3) fun q33 =>
  Option.bind (
   if (decide (q33.1 ≤ (Sh.len p3.args))) = true then
    some (decide ((Sh.len p3.args) ≤ q33.2))
   else
    some false
  ) fun t35 =>
  some t35
def preB (p : RProc) (i : RInstr) : Bool :=
 (decide (0 ≤ i.dst) && decide (i.dst < p.regs)) && (decide (i.dst = 0) || setsB i.op) && (decide (i.into = 0) || decide (i.op = 6)) && (decide (i.op = 21) || decide (i.jumps.length = 0))
theorem spec_pre {im : RImage} {p : RProc} {at_ : Nat} {i : RInstr} (H : IOK im p at_ i) {N : Nat} (hN : 2000000 ≤ N) :
  spec_validInstr N im p at_ = if (i.args.all (regB p.regs) && preB p i) = true then specMain N im p at_ i else some false := by
 have r1 := H.r1
 have r2 := H.r2
 have e0 : Sh.w (p.regs - 1) = p.regs - 1 := w_id (by omega) (by omega)
 have e1 : decide (i.dst ≤ p.regs - 1) = decide (i.dst < p.regs) := decide_eq_decide.2 (by omega)
 unfold spec_validInstr
 rw [get_lt H.code]
 simp only [Option.bind_some]
 rw [spec_args_eq H.r1 H.r2 H.al hN, cont_all]
 cases hb : i.args.all (regB p.regs) with
 | false => simp
 | true =>
  rw [if_pos rfl, inRange_eq, e0, e1, spec_sets_eq]
  simp only [Option.bind_some]
  show Option.bind _ (fun t11 => if t11 = true then some false else specMain N im p at_ i) = _
  have hj : (decide (0 < Sh.len i.jumps)) = !decide (i.jumps.length = 0) := by
   rw [len_def]
   by_cases h : i.jumps.length = 0
   ·simp [h]
   ·have : (0 : Int) < i.jumps.length := by omega
    simp only [this, h, decide_true, decide_false, Bool.not_false]
  rw [hj]
  unfold preB
  cases decide (0 ≤ i.dst) <;> cases decide (i.dst < p.regs) <;> cases decide (i.dst = 0) <;> cases setsB i.op <;> cases decide (i.into = 0) <;> cases decide (i.op = 6) <;> cases decide (i.op = 21) <;> cases decide (i.jumps.length = 0) <;> rfl
def preI (p : RProc) (i : RInstr) : Bool :=
 (decide (0 ≤ i.dst) && decide (i.dst < p.regs)) && (decide (i.dst = 0) || setsB i.op) && (decide (0 ≤ i.into) && decide (i.into ≤ p.regs)) && (decide (i.into = 0) || decide (i.op = 6))
def opB (op : Int) : Bool := decide (0 ≤ op) && decide (op ≤ 24) && !decide (op = 7) && !decide (op = 8) && !decide (op = 12) && !decide (op = 13)
def jmpI (p : RProc) (at_ : Int) (i : RInstr) : Bool := (decide (i.op = 21) || decide (i.jumps.length = 0)) && i.jumps.all (jmpB at_ p.code.length)
theorem impl_pre {im : RImage} {p : RProc} {at_ : Nat} {i : RInstr} (H : IOK im p at_ i) {sg : RSignatures} {N : Nat} (hN : 2000000 ≤ N) :
  impl_signatures_instrValid N sg p at_ i = if (opB i.op && preI p i && i.args.all (regB p.regs) && jmpI p at_ i) = true then implMain N sg p at_ i else some false := by
 unfold impl_signatures_instrValid
 rw [impl_args_eq H.al hN, cont_all, contains_eq H.jl hN]
 simp only [Option.bind_some]
 have n1 : decide (i.op < 0) = !decide (0 ≤ i.op) := by by_cases h : 0 ≤ i.op <;> simp [h] <;> omega
 have n2 : decide (24 < i.op) = !decide (i.op ≤ 24) := by by_cases h : i.op ≤ 24 <;> simp [h] <;> omega
 have n3 : decide (i.dst < 0) = !decide (0 ≤ i.dst) := by by_cases h : 0 ≤ i.dst <;> simp [h] <;> omega
 have n4 : decide (p.regs ≤ i.dst) = !decide (i.dst < p.regs) := by by_cases h : i.dst < p.regs <;> simp [h] <;> omega
 have n5 : decide (i.into < 0) = !decide (0 ≤ i.into) := by by_cases h : 0 ≤ i.into <;> simp [h] <;> omega
 have n6 : decide (p.regs < i.into) = !decide (i.into ≤ p.regs) := by by_cases h : i.into ≤ p.regs <;> simp [h] <;> omega
 have n7 : (decide (0 < Sh.len i.jumps)) = !decide (i.jumps.length = 0) := by
  rw [len_def]
  by_cases h : i.jumps.length = 0
  ·simp [h]
  ·have : (0 : Int) < i.jumps.length := by omega
   simp only [this, h, decide_true, decide_false, Bool.not_false]
 rw [n1, n2, n3, n4, n5, n6, n7]
 by_cases hbad : opB i.op = true
 ·have h7 : i.op ≠ 7 := by intro e; simp [opB, e] at hbad
  have h8 : i.op ≠ 8 := by intro e; simp [opB, e] at hbad
  rw [impl_sets_eq h7 h8, hbad]
  unfold opB at hbad
  simp only [Bool.and_eq_true] at hbad
  obtain ⟨⟨⟨⟨⟨b1, b2⟩, b3⟩, b4⟩, b5⟩, b6⟩ := hbad
  simp only [Bool.not_eq_true'] at b3 b4 b5 b6
  rw [b1, b2, b3, b4, b5, b6]
  simp only [Option.bind_some]
  show (if (false : Bool) = true then some false else Option.bind _ (fun t10 => if t10 = true then some false else if i.args.all (regB p.regs) = true then Option.bind _ (fun t21 => if t21 = true then some false else implMain N sg p at_ i) else some (id false))) = _
  unfold preI jmpI
  cases decide (0 ≤ i.dst) <;> cases decide (i.dst < p.regs) <;> cases decide (i.dst = 0) <;> cases setsB i.op <;> cases decide (0 ≤ i.into) <;> cases decide (i.into ≤ p.regs) <;> cases decide (i.into = 0) <;> cases decide (i.op = 6) <;> first | rfl | (cases i.args.all (regB p.regs) <;> first | rfl | (cases decide (i.op = 21) <;> cases decide (i.jumps.length = 0) <;> cases i.jumps.all (jmpB at_ p.code.length) <;> rfl))
 ·simp only [Bool.not_eq_true] at hbad
  rw [hbad]
  unfold opB at hbad
  simp only [Bool.false_and, Bool.false_eq_true, if_false]
  revert hbad
  cases decide (0 ≤ i.op) <;> cases decide (i.op ≤ 24) <;> cases decide (i.op = 7) <;> cases decide (i.op = 8) <;> cases decide (i.op = 12) <;> cases decide (i.op = 13) <;> intro hbad <;> first | rfl | cases hbad
end RC



namespace RC
open Go
def sgOf (im : RImage) : RSignatures := ⟨im.decls, im.procs.map toS⟩
def MainI (N : Nat) (im : RImage) (p : RProc) (at_ : Nat) (i : RInstr) (ex : Bool) : Prop := ∃ m, implMain N (sgOf im) p at_ i = some m ∧ specMain N im p at_ i = some (m && ex)
section
variable {im : RImage} {p : RProc} {at_ : Nat} {i : RInstr} {N : Nat}
theorem main_0 (H : IOK im p at_ i) (hN : 2000000 ≤ N) (hop : i.op = 0) : MainI N im p at_ i true := by
 have hal := H.al
 have hat := H.at
 have hcl := H.cl
 unfold MainI specMain implMain impl_signatures_numValid impl_signatures_argsOf
 simp only [hop, inRange_eq, len_def, Option.bind_some]
 by_cases h1 : i.args.length = 0 <;> by_cases h2 : -999 ≤ i.num <;> by_cases h3 : i.num ≤ 999 <;> simp [h1, h2, h3] <;> omega
theorem main_1 (H : IOK im p at_ i) (hN : 2000000 ≤ N) (hop : i.op = 1) : MainI N im p at_ i true := by
 have hal := H.al
 have hat := H.at
 have hcl := H.cl
 unfold MainI specMain implMain impl_signatures_numValid impl_signatures_argsOf
 simp only [hop, inRange_eq, len_def, Option.bind_some]
 by_cases h1 : i.num = 0
 ·by_cases h2 : (i.args.length : Int) = 2
  ·simp [h1, h2]
  ·have h3 : ¬ (2 ≤ (i.args.length : Int) ∧ (i.args.length : Int) ≤ 2) := by omega
   by_cases h4 : 2 ≤ (i.args.length : Int)
   ·have h5 : ¬ (i.args.length : Int) ≤ 2 := by omega
    simp [h1, h2, h4, h5]
   ·simp [h1, h2, h4]
 ·by_cases h2 : (i.args.length : Int) = 2 <;> simp [h1, h2]
theorem main_2 (H : IOK im p at_ i) (hN : 2000000 ≤ N) (hop : i.op = 2) : MainI N im p at_ i true := by
 have hal := H.al
 have hat := H.at
 have hcl := H.cl
 unfold MainI specMain implMain impl_signatures_numValid impl_signatures_argsOf
 simp only [hop, inRange_eq, len_def, Option.bind_some]
 by_cases h1 : i.num = 0
 ·by_cases h2 : (i.args.length : Int) = 2
  ·simp [h1, h2]
  ·have h3 : ¬ (2 ≤ (i.args.length : Int) ∧ (i.args.length : Int) ≤ 2) := by omega
   by_cases h4 : 2 ≤ (i.args.length : Int)
   ·have h5 : ¬ (i.args.length : Int) ≤ 2 := by omega
    simp [h1, h2, h4, h5]
   ·simp [h1, h2, h4]
 ·by_cases h2 : (i.args.length : Int) = 2 <;> simp [h1, h2]
theorem main_3 (H : IOK im p at_ i) (hN : 2000000 ≤ N) (hop : i.op = 3) : MainI N im p at_ i true := by
 have hal := H.al
 have hat := H.at
 have hcl := H.cl
 unfold MainI specMain implMain impl_signatures_numValid impl_signatures_argsOf
 simp only [hop, inRange_eq, len_def, Option.bind_some]
 by_cases h1 : i.num = 0
 ·by_cases h2 : (i.args.length : Int) = 2
  ·simp [h1, h2]
  ·have h3 : ¬ (2 ≤ (i.args.length : Int) ∧ (i.args.length : Int) ≤ 2) := by omega
   by_cases h4 : 2 ≤ (i.args.length : Int)
   ·have h5 : ¬ (i.args.length : Int) ≤ 2 := by omega
    simp [h1, h2, h4, h5]
   ·simp [h1, h2, h4]
 ·by_cases h2 : (i.args.length : Int) = 2 <;> simp [h1, h2]
theorem main_4 (H : IOK im p at_ i) (hN : 2000000 ≤ N) (hop : i.op = 4) : MainI N im p at_ i true := by
 have hal := H.al
 have hat := H.at
 have hcl := H.cl
 unfold MainI specMain implMain impl_signatures_numValid impl_signatures_argsOf
 simp only [hop, inRange_eq, len_def, Option.bind_some]
 by_cases h1 : i.num = 0
 ·by_cases h2 : (i.args.length : Int) = 2
  ·simp [h1, h2]
  ·have h3 : ¬ (2 ≤ (i.args.length : Int) ∧ (i.args.length : Int) ≤ 2) := by omega
   by_cases h4 : 2 ≤ (i.args.length : Int)
   ·have h5 : ¬ (i.args.length : Int) ≤ 2 := by omega
    simp [h1, h2, h4, h5]
   ·simp [h1, h2, h4]
 ·by_cases h2 : (i.args.length : Int) = 2 <;> simp [h1, h2]
theorem main_11 (H : IOK im p at_ i) (hN : 2000000 ≤ N) (hop : i.op = 11) : MainI N im p at_ i true := by
 have hal := H.al
 have hat := H.at
 have hcl := H.cl
 unfold MainI specMain implMain impl_signatures_numValid impl_signatures_argsOf
 simp only [hop, inRange_eq, len_def, Option.bind_some]
 by_cases h1 : i.num = 0
 ·by_cases h2 : (i.args.length : Int) = 2
  ·simp [h1, h2]
  ·have h3 : ¬ (2 ≤ (i.args.length : Int) ∧ (i.args.length : Int) ≤ 2) := by omega
   by_cases h4 : 2 ≤ (i.args.length : Int)
   ·have h5 : ¬ (i.args.length : Int) ≤ 2 := by omega
    simp [h1, h2, h4, h5]
   ·simp [h1, h2, h4]
 ·by_cases h2 : (i.args.length : Int) = 2 <;> simp [h1, h2]
theorem main_5 (H : IOK im p at_ i) (hN : 2000000 ≤ N) (hop : i.op = 5) : MainI N im p at_ i true := by
 have hal := H.al
 have hat := H.at
 have hcl := H.cl
 unfold MainI specMain implMain impl_signatures_numValid impl_signatures_argsOf
 simp only [hop, inRange_eq, len_def, Option.bind_some]
 by_cases h1 : i.num = 0
 ·by_cases h2 : (i.args.length : Int) = 1
  ·simp [h1, h2]
  ·by_cases h4 : 1 ≤ (i.args.length : Int)
   ·have h5 : ¬ (i.args.length : Int) ≤ 1 := by omega
    simp [h1, h2, h4, h5]
   ·simp [h1, h2, h4]
 ·by_cases h2 : (i.args.length : Int) = 1 <;> simp [h1, h2]
theorem main_14 (H : IOK im p at_ i) (hN : 2000000 ≤ N) (hop : i.op = 14) : MainI N im p at_ i true := by
 have hal := H.al
 have hat := H.at
 have hcl := H.cl
 unfold MainI specMain implMain impl_signatures_numValid impl_signatures_argsOf
 simp only [hop, inRange_eq, len_def, Option.bind_some]
 by_cases h1 : i.num = 0
 ·by_cases h2 : (i.args.length : Int) = 1
  ·simp [h1, h2]
  ·by_cases h4 : 1 ≤ (i.args.length : Int)
   ·have h5 : ¬ (i.args.length : Int) ≤ 1 := by omega
    simp [h1, h2, h4, h5]
   ·simp [h1, h2, h4]
 ·by_cases h2 : (i.args.length : Int) = 1 <;> simp [h1, h2]
theorem main_15 (H : IOK im p at_ i) (hN : 2000000 ≤ N) (hop : i.op = 15) : MainI N im p at_ i true := by
 have hal := H.al
 have hat := H.at
 have hcl := H.cl
 unfold MainI specMain implMain impl_signatures_numValid impl_signatures_argsOf
 simp only [hop, inRange_eq, len_def, Option.bind_some]
 by_cases h1 : i.num = 0
 ·by_cases h2 : (i.args.length : Int) = 1
  ·simp [h1, h2]
  ·by_cases h4 : 1 ≤ (i.args.length : Int)
   ·have h5 : ¬ (i.args.length : Int) ≤ 1 := by omega
    simp [h1, h2, h4, h5]
   ·simp [h1, h2, h4]
 ·by_cases h2 : (i.args.length : Int) = 1 <;> simp [h1, h2]
theorem main_18 (H : IOK im p at_ i) (hN : 2000000 ≤ N) (hop : i.op = 18) : MainI N im p at_ i true := by
 have hal := H.al
 have hat := H.at
 have hcl := H.cl
 unfold MainI specMain implMain impl_signatures_numValid impl_signatures_argsOf
 simp only [hop, inRange_eq, len_def, Option.bind_some]
 by_cases h1 : i.num = 0
 ·by_cases h2 : (i.args.length : Int) = 1
  ·simp [h1, h2]
  ·by_cases h4 : 1 ≤ (i.args.length : Int)
   ·have h5 : ¬ (i.args.length : Int) ≤ 1 := by omega
    simp [h1, h2, h4, h5]
   ·simp [h1, h2, h4]
 ·by_cases h2 : (i.args.length : Int) = 1 <;> simp [h1, h2]
theorem main_23 (H : IOK im p at_ i) (hN : 2000000 ≤ N) (hop : i.op = 23) : MainI N im p at_ i true := by
 have hal := H.al
 have hat := H.at
 have hcl := H.cl
 unfold MainI specMain implMain impl_signatures_numValid impl_signatures_argsOf
 simp only [hop, inRange_eq, len_def, Option.bind_some]
 by_cases h1 : i.num = 0
 ·by_cases h2 : (i.args.length : Int) = 1
  ·simp [h1, h2]
  ·by_cases h4 : 1 ≤ (i.args.length : Int)
   ·have h5 : ¬ (i.args.length : Int) ≤ 1 := by omega
    simp [h1, h2, h4, h5]
   ·simp [h1, h2, h4]
 ·by_cases h2 : (i.args.length : Int) = 1 <;> simp [h1, h2]
theorem main_16 (H : IOK im p at_ i) (hN : 2000000 ≤ N) (hop : i.op = 16) : MainI N im p at_ i true := by
 have hal := H.al
 have hat := H.at
 have hcl := H.cl
 unfold MainI specMain implMain impl_signatures_numValid impl_signatures_argsOf
 simp only [hop, inRange_eq, len_def, Option.bind_some]
 by_cases h1 : i.num = 0 <;> by_cases h2 : 1 ≤ (i.args.length : Int) <;> by_cases h3 : (i.args.length : Int) ≤ 4 <;> simp [h1, h2, h3]
theorem main_17 (H : IOK im p at_ i) (hN : 2000000 ≤ N) (hop : i.op = 17) : MainI N im p at_ i true := by
 have hal := H.al
 have hat := H.at
 have hcl := H.cl
 unfold MainI specMain implMain impl_signatures_numValid impl_signatures_argsOf
 simp only [hop, inRange_eq, len_def, Option.bind_some]
 by_cases h1 : i.num = 0 <;> by_cases h2 : 1 ≤ (i.args.length : Int) <;> by_cases h3 : (i.args.length : Int) ≤ 4 <;> simp [h1, h2, h3]
theorem main_19 (H : IOK im p at_ i) (hN : 2000000 ≤ N) (hop : i.op = 19) : MainI N im p at_ i true := by
 have hal := H.al
 have hat := H.at
 have hcl := H.cl
 unfold MainI specMain implMain impl_signatures_numValid impl_signatures_argsOf
 simp only [hop, inRange_eq, len_def, Option.bind_some]
 have e : decide (i.num ≤ 2) = decide (i.num < 3) := decide_eq_decide.2 (by omega)
 rw [e]
 by_cases h1 : 0 ≤ i.num <;> by_cases h3 : i.num < 3 <;> by_cases h2 : (i.args.length : Int) = 1 <;> by_cases h4 : 1 ≤ (i.args.length : Int) <;> by_cases h5 : (i.args.length : Int) ≤ 1 <;> first | (exfalso; omega) | simp [h1, h2, h3, h4, h5]
theorem main_20 (H : IOK im p at_ i) (hN : 2000000 ≤ N) (hop : i.op = 20) : MainI N im p at_ i true := by
 have hal := H.al
 have hat := H.at
 have hcl := H.cl
 unfold MainI specMain implMain impl_signatures_numValid impl_signatures_argsOf
 simp only [hop, inRange_eq, len_def, Option.bind_some]
 have e2 : Sh.w ((at_ : Int) + 1) = (at_ : Int) + 1 := w_id (by omega) (by omega)
 have e3 : Sh.w ((p.code.length : Int) - 1) = (p.code.length : Int) - 1 := w_id (by omega) (by omega)
 have e4 : decide ((at_ : Int) + 1 ≤ i.num) = decide ((at_ : Int) < i.num) := decide_eq_decide.2 (by omega)
 have e5 : decide (i.num ≤ (p.code.length : Int) - 1) = decide (i.num < (p.code.length : Int)) := decide_eq_decide.2 (by omega)
 simp only [e2, e3, e4, e5, closure_eq, jmpB, Option.bind_some]
 by_cases h1 : (at_ : Int) < i.num <;> by_cases h3 : i.num < (p.code.length : Int) <;> by_cases h2 : (i.args.length : Int) = 1 <;> by_cases h4 : 1 ≤ (i.args.length : Int) <;> by_cases h5 : (i.args.length : Int) ≤ 1 <;> first | (exfalso; omega) | simp [h1, h2, h3, h4, h5]
theorem main_22 (H : IOK im p at_ i) (hN : 2000000 ≤ N) (hop : i.op = 22) : MainI N im p at_ i true := by
 have hal := H.al
 have hat := H.at
 have hcl := H.cl
 unfold MainI specMain implMain impl_signatures_numValid impl_signatures_argsOf
 simp only [hop, inRange_eq, len_def, Option.bind_some]
 have e2 : Sh.w ((at_ : Int) + 1) = (at_ : Int) + 1 := w_id (by omega) (by omega)
 have e3 : Sh.w ((p.code.length : Int) - 1) = (p.code.length : Int) - 1 := w_id (by omega) (by omega)
 have e4 : decide ((at_ : Int) + 1 ≤ i.num) = decide ((at_ : Int) < i.num) := decide_eq_decide.2 (by omega)
 have e5 : decide (i.num ≤ (p.code.length : Int) - 1) = decide (i.num < (p.code.length : Int)) := decide_eq_decide.2 (by omega)
 simp only [e2, e3, e4, e5, closure_eq, jmpB, Option.bind_some]
 have q0 : ((i.args.length : Int) = 0) ↔ i.args = [] := by rw [← List.length_eq_zero_iff]; omega
 by_cases h0 : i.args = []
 ·have h0' : (i.args.length : Int) = 0 := q0.2 h0
  by_cases h1 : (at_ : Int) < i.num <;> by_cases h3 : i.num < (p.code.length : Int) <;> simp [h1, h3, h0]
 have h0' : ¬ (i.args.length : Int) = 0 := fun h => h0 (q0.1 h)
 by_cases h1 : (at_ : Int) < i.num <;> by_cases h3 : i.num < (p.code.length : Int) <;> by_cases h2 : (i.args.length : Int) = 0 <;> by_cases h4 : 0 ≤ (i.args.length : Int) <;> by_cases h5 : (i.args.length : Int) ≤ 0 <;> first | (exfalso; omega) | simp [h0, h1, h2, h3, h4, h5]
theorem main_9 (H : IOK im p at_ i) (hN : 2000000 ≤ N) (hop : i.op = 9) : MainI N im p at_ i true := by
 have hal := H.al
 have hat := H.at
 have hcl := H.cl
 unfold MainI specMain implMain impl_signatures_numValid impl_signatures_argsOf
 simp only [hop, inRange_eq, len_def, Option.bind_some]
 have hpl := H.pl
 have e1 : Sh.w ((im.procs.length : Int) - 1) = (im.procs.length : Int) - 1 := w_id (by omega) (by omega)
 have e2 : Sh.w ((i.args.length : Int) + 0) = (i.args.length : Int) := by rw [w_id (by omega) (by omega)]; omega
 have e3 : decide (i.num ≤ (im.procs.length : Int) - 1) = decide (i.num < (im.procs.length : Int)) := decide_eq_decide.2 (by omega)
 unfold spec_procWith sgOf
 simp only [inRange_eq, len_def, e1, e2, e3, List.length_map, Option.bind_some]
 by_cases h1 : 0 ≤ i.num
 ·by_cases h2 : i.num < (im.procs.length : Int)
  ·obtain ⟨q, hq⟩ := Int.eq_ofNat_of_zero_le h1
   obtain ⟨c, hc, _⟩ := at_lt (l := im.procs) (i := q) (by omega)
   have g1 : Sh.get im.procs i.num = some c := by rw [hq]; exact get_lt hc
   have g2 : Sh.get (im.procs.map toS) i.num = some (toS c) := by rw [hq]; exact get_lt (by rw [List.getElem?_map, hc]; rfl)
   rw [g1, g2]
   have t : (toS c).params = c.params := rfl
   by_cases h3 : (c.params.length : Int) = (i.args.length : Int)
   ·simp [h1, h2, h3, t]
   ·by_cases h4 : (c.params.length : Int) ≤ (i.args.length : Int)
    ·have h5 : ¬ (i.args.length : Int) ≤ (c.params.length : Int) := by omega
     simp [h1, h2, h3, h4, h5, t]
    ·simp [h1, h2, h3, h4, t]
  ·simp [h1, h2]
 ·simp [h1]
theorem main_24 (H : IOK im p at_ i) (hN : 2000000 ≤ N) (hop : i.op = 24) : MainI N im p at_ i true := by
 have hal := H.al
 have hat := H.at
 have hcl := H.cl
 unfold MainI specMain implMain impl_signatures_numValid impl_signatures_argsOf
 simp only [hop, inRange_eq, len_def, Option.bind_some]
 have hpl := H.pl
 have e1 : Sh.w ((im.procs.length : Int) - 1) = (im.procs.length : Int) - 1 := w_id (by omega) (by omega)
 have e2 : Sh.w ((i.args.length : Int) + 0) = (i.args.length : Int) := by rw [w_id (by omega) (by omega)]; omega
 have e3 : decide (i.num ≤ (im.procs.length : Int) - 1) = decide (i.num < (im.procs.length : Int)) := decide_eq_decide.2 (by omega)
 unfold spec_procWith sgOf
 simp only [inRange_eq, len_def, e1, e2, e3, List.length_map, Option.bind_some]
 by_cases h1 : 0 ≤ i.num
 ·by_cases h2 : i.num < (im.procs.length : Int)
  ·obtain ⟨q, hq⟩ := Int.eq_ofNat_of_zero_le h1
   obtain ⟨c, hc, _⟩ := at_lt (l := im.procs) (i := q) (by omega)
   have g1 : Sh.get im.procs i.num = some c := by rw [hq]; exact get_lt hc
   have g2 : Sh.get (im.procs.map toS) i.num = some (toS c) := by rw [hq]; exact get_lt (by rw [List.getElem?_map, hc]; rfl)
   rw [g1, g2]
   have t : (toS c).params = c.params := rfl
   by_cases h3 : (c.params.length : Int) = (i.args.length : Int)
   ·simp [h1, h2, h3, t]
   ·by_cases h4 : (c.params.length : Int) ≤ (i.args.length : Int)
    ·have h5 : ¬ (i.args.length : Int) ≤ (c.params.length : Int) := by omega
     simp [h1, h2, h3, h4, h5, t]
    ·simp [h1, h2, h3, h4, t]
  ·simp [h1, h2]
 ·simp [h1]
theorem main_10 (H : IOK im p at_ i) (hN : 2000000 ≤ N) (hop : i.op = 10) : MainI N im p at_ i true := by
 have hal := H.al
 have hat := H.at
 have hcl := H.cl
 unfold MainI specMain implMain impl_signatures_numValid impl_signatures_argsOf
 simp only [hop, inRange_eq, len_def, Option.bind_some]
 have hpl := H.pl
 have e1 : Sh.w ((im.procs.length : Int) - 1) = (im.procs.length : Int) - 1 := w_id (by omega) (by omega)
 have e2 : Sh.w ((i.args.length : Int) + 1) = (i.args.length : Int) + 1 := w_id (by omega) (by omega)
 have e3 : decide (i.num ≤ (im.procs.length : Int) - 1) = decide (i.num < (im.procs.length : Int)) := decide_eq_decide.2 (by omega)
 unfold spec_procWith sgOf
 simp only [inRange_eq, len_def, e1, e2, e3, List.length_map, Option.bind_some]
 by_cases h1 : 0 ≤ i.num
 ·by_cases h2 : i.num < (im.procs.length : Int)
  ·obtain ⟨q, hq⟩ := Int.eq_ofNat_of_zero_le h1
   obtain ⟨c, hc, hcm⟩ := at_lt (l := im.procs) (i := q) (by omega)
   have hpp := H.pp c hcm
   have g1 : Sh.get im.procs i.num = some c := by rw [hq]; exact get_lt hc
   have g2 : Sh.get (im.procs.map toS) i.num = some (toS c) := by rw [hq]; exact get_lt (by rw [List.getElem?_map, hc]; rfl)
   rw [g1, g2]
   have t : (toS c).params = c.params := rfl
   have t2 : (toS c).lent = c.lent := rfl
   have e4 : Sh.w ((c.params.length : Int) - 1) = (c.params.length : Int) - 1 := w_id (by omega) (by omega)
   simp only [t, t2, Option.bind_some, e4]
   by_cases h6 : (c.lent.length : Int) = 0
   ·by_cases h3 : (c.params.length : Int) = (i.args.length : Int) + 1
    ·simp [h1, h2, h3, h6]
    ·by_cases h4 : (c.params.length : Int) - 1 ≤ (i.args.length : Int)
     ·have h5 : ¬ (i.args.length : Int) ≤ (c.params.length : Int) - 1 := by omega
      simp [h1, h2, h3, h4, h5, h6]
     ·simp [h1, h2, h3, h4, h6]
   ·have h7 : ¬ c.lent = [] := by
     intro h
     rw [h] at h6
     exact h6 rfl
    by_cases h3 : (c.params.length : Int) = (i.args.length : Int) + 1 <;> simp [h1, h2, h3, h6, h7]
  ·simp [h1, h2]
 ·simp [h1]
theorem main_6 (H : IOK im p at_ i) (hN : 2000000 ≤ N) (hop : i.op = 6) : MainI N im p at_ i (decide (0 ≤ i.into) && decide (i.into ≤ p.regs)) := by
 have hal := H.al
 have hat := H.at
 have hcl := H.cl
 unfold MainI specMain implMain impl_signatures_numValid impl_signatures_argsOf
 simp only [hop, inRange_eq, len_def, Option.bind_some]
 unfold sgOf
 simp only []
 rw [impl_conCount_eq H.dl H.nn hN]
 simp only [Option.bind_some]
 by_cases h1 : 0 ≤ i.num
 ·by_cases h2 : i.num < (nc im.decls : Int)
  ·obtain ⟨q, hq⟩ := Int.eq_ofNat_of_zero_le h1
   obtain ⟨t, x, f1, f2⟩ := spec_conType_in H.dl H.nn (c := q) (by omega) hN
   obtain ⟨t', x', f3, f4⟩ := spec_conFields_eq H.dl H.nn (c := q) (by omega) hN
   obtain ⟨t2, x2, f5, f6⟩ := impl_fieldsOf_eq H.dl H.nn (c := q) (by omega) hN
   obtain ⟨t3, x3, f7, f8, _⟩ := conF_some im.decls 0 q (by omega)
   rw [f1] at f3 f5 f7
   cases f3; cases f5; cases f7
   rw [hq, f2, f4, f6]
   have ht : (0 : Int) < t := by omega
   have ht0 : ¬ t = 0 := by omega
   have h2' : (q : Int) < (nc im.decls : Int) := by omega
   have h1' : (0 : Int) ≤ (q : Int) := Int.natCast_nonneg _
   simp only [Option.bind_some, len_def]
   by_cases h3 : (i.args.length : Int) = (x.fields.length : Int)
   ·simp [h1', h2', h3, ht, ht0]
   ·by_cases h4 : (x.fields.length : Int) ≤ (i.args.length : Int)
    ·have h5 : ¬ (i.args.length : Int) ≤ (x.fields.length : Int) := by omega
     simp [h1', h2', h3, h4, h5, ht, ht0]
    ·simp [h1', h2', h3, h4, ht, ht0]
  ·rw [spec_conType_out H.dl H.nn (.inr (by omega)) hN]
   simp [h1, h2]
 ·rw [spec_conType_out H.dl H.nn (.inl (by omega)) hN]
  simp [h1]
theorem main_21 (H : IOK im p at_ i) (hN : 2000000 ≤ N) (hop : i.op = 21) : MainI N im p at_ i (i.jumps.all (jmpB at_ p.code.length)) := by
 have hal := H.al
 have hat := H.at
 have hcl := H.cl
 unfold MainI specMain implMain impl_signatures_numValid impl_signatures_argsOf
 simp only [hop, inRange_eq, len_def, Option.bind_some]
 unfold sgOf
 simp only []
 rw [spec_consOf_eq H.dl H.nn hN, impl_consOf_eq H.dl H.nn hN]
 simp only [Option.bind_some, len_def]
 rw [spec_jumps_eq H.jl (Int.natCast_nonneg _) (by omega) (Int.natCast_nonneg _) (by omega) hN]
 generalize consL im.decls i.num = cl
 have dd : ∀ a : Bool, (match a with | true => true | false => false) = a := by intro a; cases a <;> rfl
 rcases cl with _ | ⟨c0, cl⟩
 ·simp only [List.length_nil]
  by_cases h2 : (i.args.length : Int) = 1 <;> by_cases h3 : (i.jumps.length : Int) = ((0 : Nat) : Int) <;> by_cases h4 : 1 ≤ (i.args.length : Int) <;> by_cases h5 : (i.args.length : Int) ≤ 1 <;> first | (exfalso; omega) | (cases i.jumps.all (jmpB at_ p.code.length) <;> simp [h2, h3, h4, h5])
 ·have h1 : (0 : Int) < ((List.length (c0 :: cl) : Nat) : Int) := by simp only [List.length_cons]; omega
  by_cases h2 : (i.args.length : Int) = 1 <;> by_cases h3 : (i.jumps.length : Int) = ((List.length (c0 :: cl) : Nat) : Int) <;> by_cases h4 : 1 ≤ (i.args.length : Int) <;> by_cases h5 : (i.args.length : Int) ≤ 1 <;> first | (exfalso; omega) | (cases i.jumps.all (jmpB at_ p.code.length) <;> simp only [h1, h2, h3, h4, h5] <;> simp [h4, h5])
theorem instr_both (H : IOK im p at_ i) (hN : 2000000 ≤ N) : ∃ b, spec_validInstr N im p at_ = some b ∧ impl_signatures_instrValid N (sgOf im) p at_ i = some b := by
 rw [spec_pre H hN, impl_pre H hN]
 have other : ∀ (h6 : i.op ≠ 6) (h21 : i.op ≠ 21), (preB p i = (preI p i && jmpI p at_ i)) := fun h6 h21 => by
  have r1 := H.r1
  unfold preB preI jmpI
  simp only [h6, h21, decide_false, Bool.or_false, Bool.false_or]
  by_cases h1 : i.into = 0
  ·have h2 : (0 : Int) ≤ p.regs := by omega
   by_cases h3 : i.jumps.length = 0
   ·have : i.jumps = [] := List.eq_nil_of_length_eq_zero h3
    simp [h1, h2, this]
   ·simp [h3]
  ·simp [h1]
 have fin : MainI N im p at_ i true → i.op ≠ 6 → i.op ≠ 21 → opB i.op = true →
   ∃ b, (if (i.args.all (regB p.regs) && preB p i) = true then specMain N im p at_ i else some false) = some b ∧ (if (opB i.op && preI p i && i.args.all (regB p.regs) && jmpI p at_ i) = true then implMain N (sgOf im) p at_ i else some false) = some b := fun ⟨m, h1, h2⟩ h6 h21 hop => by
  rw [h1, h2, other h6 h21, hop]
  cases i.args.all (regB p.regs) <;> cases preI p i <;> cases jmpI p at_ i <;> simp
 by_cases o0 : i.op = 0
 ·exact fin (main_0 H hN o0) (by omega) (by omega) (by rw [o0]; rfl)
 by_cases o1 : i.op = 1
 ·exact fin (main_1 H hN o1) (by omega) (by omega) (by rw [o1]; rfl)
 by_cases o2 : i.op = 2
 ·exact fin (main_2 H hN o2) (by omega) (by omega) (by rw [o2]; rfl)
 by_cases o3 : i.op = 3
 ·exact fin (main_3 H hN o3) (by omega) (by omega) (by rw [o3]; rfl)
 by_cases o4 : i.op = 4
 ·exact fin (main_4 H hN o4) (by omega) (by omega) (by rw [o4]; rfl)
 by_cases o5 : i.op = 5
 ·exact fin (main_5 H hN o5) (by omega) (by omega) (by rw [o5]; rfl)
 by_cases o9 : i.op = 9
 ·exact fin (main_9 H hN o9) (by omega) (by omega) (by rw [o9]; rfl)
 by_cases o10 : i.op = 10
 ·exact fin (main_10 H hN o10) (by omega) (by omega) (by rw [o10]; rfl)
 by_cases o11 : i.op = 11
 ·exact fin (main_11 H hN o11) (by omega) (by omega) (by rw [o11]; rfl)
 by_cases o14 : i.op = 14
 ·exact fin (main_14 H hN o14) (by omega) (by omega) (by rw [o14]; rfl)
 by_cases o15 : i.op = 15
 ·exact fin (main_15 H hN o15) (by omega) (by omega) (by rw [o15]; rfl)
 by_cases o16 : i.op = 16
 ·exact fin (main_16 H hN o16) (by omega) (by omega) (by rw [o16]; rfl)
 by_cases o17 : i.op = 17
 ·exact fin (main_17 H hN o17) (by omega) (by omega) (by rw [o17]; rfl)
 by_cases o18 : i.op = 18
 ·exact fin (main_18 H hN o18) (by omega) (by omega) (by rw [o18]; rfl)
 by_cases o19 : i.op = 19
 ·exact fin (main_19 H hN o19) (by omega) (by omega) (by rw [o19]; rfl)
 by_cases o20 : i.op = 20
 ·exact fin (main_20 H hN o20) (by omega) (by omega) (by rw [o20]; rfl)
 by_cases o22 : i.op = 22
 ·exact fin (main_22 H hN o22) (by omega) (by omega) (by rw [o22]; rfl)
 by_cases o23 : i.op = 23
 ·exact fin (main_23 H hN o23) (by omega) (by omega) (by rw [o23]; rfl)
 by_cases o24 : i.op = 24
 ·exact fin (main_24 H hN o24) (by omega) (by omega) (by rw [o24]; rfl)
 by_cases o6 : i.op = 6
 ·obtain ⟨m, h1, h2⟩ := main_6 H hN o6
  rw [h1, h2]
  have hop : opB i.op = true := by rw [o6]; rfl
  have e : (preB p i && (decide (0 ≤ i.into) && decide (i.into ≤ p.regs))) = (preI p i && jmpI p at_ i) := by
   unfold preB preI jmpI
   have h21 : decide (i.op = 21) = false := by rw [o6]; rfl
   have h6 : decide (i.op = 6) = true := by rw [o6]; rfl
   rw [h21, h6]
   by_cases h3 : i.jumps.length = 0
   ·have : i.jumps = [] := List.eq_nil_of_length_eq_zero h3
    rw [this]
    cases decide (0 ≤ i.dst) <;> cases decide (i.dst < p.regs) <;> cases decide (i.dst = 0) <;> cases setsB i.op <;> cases decide (0 ≤ i.into) <;> cases decide (i.into ≤ p.regs) <;> simp
   ·simp [h3]
  rw [hop]
  revert e
  cases i.args.all (regB p.regs) <;> cases preB p i <;> cases preI p i <;> cases jmpI p at_ i <;> cases (decide (0 ≤ i.into) && decide (i.into ≤ p.regs)) <;> cases m <;> simp
 by_cases o21 : i.op = 21
 ·obtain ⟨m, h1, h2⟩ := main_21 H hN o21
  rw [h1, h2]
  have hop : opB i.op = true := by rw [o21]; rfl
  have e : (preB p i && i.jumps.all (jmpB at_ p.code.length)) = (preI p i && jmpI p at_ i) := by
   have r1 := H.r1
   unfold preB preI jmpI
   have h21 : decide (i.op = 21) = true := by rw [o21]; rfl
   have h6 : decide (i.op = 6) = false := by rw [o21]; rfl
   rw [h21, h6]
   by_cases h1 : i.into = 0
   ·have h2 : (0 : Int) ≤ p.regs := by omega
    simp [h1, h2]
   ·simp [h1]
  rw [hop]
  revert e
  cases i.args.all (regB p.regs) <;> cases preB p i <;> cases preI p i <;> cases jmpI p at_ i <;> cases i.jumps.all (jmpB at_ p.code.length) <;> cases m <;> simp
 have hop : opB i.op = false := by
  unfold opB
  by_cases h0 : 0 ≤ i.op
  ·by_cases h24 : i.op ≤ 24
   ·have : i.op = 7 ∨ i.op = 8 ∨ i.op = 12 ∨ i.op = 13 := by omega
    rcases this with h | h | h | h <;> simp [h]
   ·simp [h24]
  ·simp [h0]
 have hs : specMain N im p at_ i = some false := by
  unfold specMain
  simp [o0, o1, o2, o3, o4, o5, o6, o9, o10, o11, o14, o15, o16, o17, o18, o19, o20, o21, o22, o23, o24]
 rw [hop, hs]
 refine ⟨false, ?_, by simp⟩
 split <;> rfl
end
end RC



namespace RC
open Go
theorem mem_sum {α : Type} (f : α → Nat) {l : List α} {x : α} (h : x ∈ l) : f x ≤ (l.map f).sum := by
 induction l with
 | nil => cases h
 | cons y r ih =>
  rw [List.map_cons, List.sum_cons]
  rcases List.mem_cons.1 h with rfl | h
  ·omega
  ·have := ih h; omega
theorem toCon_eq {c : RCon} (h : cz c ≤ 1048576) {N : Nat} (hN : 2000000 ≤ N) : laws_toCon N c = some c := by
 unfold cz at h
 unfold laws_toCon; rw [toIntS_eq h hN]; rfl
theorem toConS_eq {l : List RCon} (hl : l.length + (l.map cz).sum ≤ 1048576) {N : Nat} (hN : 2000000 ≤ N) : laws_toConS N l = some l := by
 unfold laws_toConS
 rw [len_def, mk_ok _ _ _ (by omega) (by omega)]
 simp only [Option.bind_some]
 rw [to_list (l := l) (laws_toConS_L1 N l) (fun n m => by rw [laws_toConS_L1, if_neg (by simp [len_def])]) (fun n i x m hx hm => ?_) (by omega) (by simp)]
 ·rfl
 ·have hi := (List.getElem?_eq_some_iff.1 hx).1
  have hz := mem_sum cz (List.mem_of_getElem? hx)
  obtain ⟨y, hy, _⟩ := at_lt (l := m) (i := i) (by omega)
  rw [laws_toConS_L1, if_pos (by simp [len_def]; omega), get_lt hx]
  simp only [Option.bind_some]
  rw [toCon_eq (by omega) hN, get_lt hy]
  simp only [Option.bind_some]
  rw [put_nat, w_id (by omega) (by omega), show ((i : Int) + 1) = ((i + 1 : Nat) : Int) by omega]
theorem toDecl_eq {d : RDecl} (h : dz d ≤ 1048576) {N : Nat} (hN : 2000000 ≤ N) : laws_toDecl N d = some d := by
 unfold dz at h
 unfold laws_toDecl; rw [toConS_eq h hN]; rfl
theorem toDeclS_eq {l : List RDecl} (hl : l.length + (l.map dz).sum ≤ 1048576) {N : Nat} (hN : 2000000 ≤ N) : laws_toDeclS N l = some l := by
 unfold laws_toDeclS
 rw [len_def, mk_ok _ _ _ (by omega) (by omega)]
 simp only [Option.bind_some]
 rw [to_list (l := l) (laws_toDeclS_L1 N l) (fun n m => by rw [laws_toDeclS_L1, if_neg (by simp [len_def])]) (fun n i x m hx hm => ?_) (by omega) (by simp)]
 ·rfl
 ·have hi := (List.getElem?_eq_some_iff.1 hx).1
  have hz := mem_sum dz (List.mem_of_getElem? hx)
  obtain ⟨y, hy, _⟩ := at_lt (l := m) (i := i) (by omega)
  rw [laws_toDeclS_L1, if_pos (by simp [len_def]; omega), get_lt hx]
  simp only [Option.bind_some]
  rw [toDecl_eq (by omega) hN, get_lt hy]
  simp only [Option.bind_some]
  rw [put_nat, w_id (by omega) (by omega), show ((i : Int) + 1) = ((i + 1 : Nat) : Int) by omega]
theorem toInstr_eq {i : RInstr} (h : iz i ≤ 1048576) {N : Nat} (hN : 2000000 ≤ N) : laws_toInstr N i = some i := by
 unfold iz at h
 unfold laws_toInstr; rw [toIntS_eq (by omega) hN, toIntS_eq (by omega) hN]; rfl
theorem toInstrS_eq {l : List RInstr} (hl : l.length + (l.map iz).sum ≤ 1048576) {N : Nat} (hN : 2000000 ≤ N) : laws_toInstrS N l = some l := by
 unfold laws_toInstrS
 rw [len_def, mk_ok _ _ _ (by omega) (by omega)]
 simp only [Option.bind_some]
 rw [to_list (l := l) (laws_toInstrS_L1 N l) (fun n m => by rw [laws_toInstrS_L1, if_neg (by simp [len_def])]) (fun n i x m hx hm => ?_) (by omega) (by simp)]
 ·rfl
 ·have hi := (List.getElem?_eq_some_iff.1 hx).1
  have hz := mem_sum iz (List.mem_of_getElem? hx)
  obtain ⟨y, hy, _⟩ := at_lt (l := m) (i := i) (by omega)
  rw [laws_toInstrS_L1, if_pos (by simp [len_def]; omega), get_lt hx]
  simp only [Option.bind_some]
  rw [toInstr_eq (by omega) hN, get_lt hy]
  simp only [Option.bind_some]
  rw [put_nat, w_id (by omega) (by omega), show ((i : Int) + 1) = ((i + 1 : Nat) : Int) by omega]
theorem toProc_eq {p : RProc} (h : pz p ≤ 1048576) {N : Nat} (hN : 2000000 ≤ N) : laws_toProc N p = some p := by
 unfold pz at h
 unfold laws_toProc; rw [toIntS_eq (by omega) hN, toIntS_eq (by omega) hN, toInstrS_eq (by omega) hN]; rfl
theorem toProcS_eq {l : List RProc} (hl : l.length + (l.map pz).sum ≤ 1048576) {N : Nat} (hN : 2000000 ≤ N) : laws_toProcS N l = some l := by
 unfold laws_toProcS
 rw [len_def, mk_ok _ _ _ (by omega) (by omega)]
 simp only [Option.bind_some]
 rw [to_list (l := l) (laws_toProcS_L1 N l) (fun n m => by rw [laws_toProcS_L1, if_neg (by simp [len_def])]) (fun n i x m hx hm => ?_) (by omega) (by simp)]
 ·rfl
 ·have hi := (List.getElem?_eq_some_iff.1 hx).1
  have hz := mem_sum pz (List.mem_of_getElem? hx)
  obtain ⟨y, hy, _⟩ := at_lt (l := m) (i := i) (by omega)
  rw [laws_toProcS_L1, if_pos (by simp [len_def]; omega), get_lt hx]
  simp only [Option.bind_some]
  rw [toProc_eq (by omega) hN, get_lt hy]
  simp only [Option.bind_some]
  rw [put_nat, w_id (by omega) (by omega), show ((i : Int) + 1) = ((i + 1 : Nat) : Int) by omega]
theorem toImage_eq {x : RImage} (h : imz x ≤ 1048576) {N : Nat} (hN : 2000000 ≤ N) : laws_toImage N x = some x := by
 unfold imz at h
 unfold laws_toImage; rw [toDeclS_eq (by omega) hN, toProcS_eq (by omega) hN]; rfl
end RC



namespace RC
open Go
theorem eqCon_eq {c : RCon} (h : cz c ≤ 1048576) {N : Nat} (hN : 2000000 ≤ N) : laws_eqCon N c c = some true := by
 unfold cz at h
 unfold laws_eqCon; rw [eqIntS_eq h hN]; rfl
theorem eqConS_eq {l : List RCon} (hl : l.length + (l.map cz).sum ≤ 1048576) {N : Nat} (hN : 2000000 ≤ N) : laws_eqConS N l l = some true := by
 unfold laws_eqConS
 have L := all_loop (l := l) (laws_eqConS_L1 N l l) (fun _ _ => true) (fun n => by rw [laws_eqConS_L1, if_neg (by simp [len_def])]) (fun n i x hx => ?_) (by omega : l.length < N)
 ·rw [allAt_all (p := fun _ => true)] at L
  simp [L, Sh.cont]
 ·have hi := (List.getElem?_eq_some_iff.1 hx).1
  have hz := mem_sum cz (List.mem_of_getElem? hx)
  rw [laws_eqConS_L1, if_pos (by simp [len_def]; omega), get_lt hx]
  simp only [Option.bind_some]
  rw [eqCon_eq (by omega) hN, w_id (by omega) (by omega), show ((i : Int) + 1) = ((i + 1 : Nat) : Int) by omega]
  rfl
theorem eqDecl_eq {d : RDecl} (h : dz d ≤ 1048576) {N : Nat} (hN : 2000000 ≤ N) : laws_eqDecl N d d = some true := by
 unfold dz at h
 unfold laws_eqDecl; rw [eqConS_eq h hN]; simp
theorem eqDeclS_eq {l : List RDecl} (hl : l.length + (l.map dz).sum ≤ 1048576) {N : Nat} (hN : 2000000 ≤ N) : laws_eqDeclS N l l = some true := by
 unfold laws_eqDeclS
 have L := all_loop (l := l) (laws_eqDeclS_L1 N l l) (fun _ _ => true) (fun n => by rw [laws_eqDeclS_L1, if_neg (by simp [len_def])]) (fun n i x hx => ?_) (by omega : l.length < N)
 ·rw [allAt_all (p := fun _ => true)] at L
  simp [L, Sh.cont]
 ·have hi := (List.getElem?_eq_some_iff.1 hx).1
  have hz := mem_sum dz (List.mem_of_getElem? hx)
  rw [laws_eqDeclS_L1, if_pos (by simp [len_def]; omega), get_lt hx]
  simp only [Option.bind_some]
  rw [eqDecl_eq (by omega) hN, w_id (by omega) (by omega), show ((i : Int) + 1) = ((i + 1 : Nat) : Int) by omega]
  rfl
theorem eqInstr_eq {i : RInstr} (h : iz i ≤ 1048576) {N : Nat} (hN : 2000000 ≤ N) : laws_eqInstr N i i = some true := by
 unfold iz at h
 unfold laws_eqInstr; rw [eqIntS_eq (by omega) hN, eqIntS_eq (by omega) hN]; simp
theorem eqInstrS_eq {l : List RInstr} (hl : l.length + (l.map iz).sum ≤ 1048576) {N : Nat} (hN : 2000000 ≤ N) : laws_eqInstrS N l l = some true := by
 unfold laws_eqInstrS
 have L := all_loop (l := l) (laws_eqInstrS_L1 N l l) (fun _ _ => true) (fun n => by rw [laws_eqInstrS_L1, if_neg (by simp [len_def])]) (fun n i x hx => ?_) (by omega : l.length < N)
 ·rw [allAt_all (p := fun _ => true)] at L
  simp [L, Sh.cont]
 ·have hi := (List.getElem?_eq_some_iff.1 hx).1
  have hz := mem_sum iz (List.mem_of_getElem? hx)
  rw [laws_eqInstrS_L1, if_pos (by simp [len_def]; omega), get_lt hx]
  simp only [Option.bind_some]
  rw [eqInstr_eq (by omega) hN, w_id (by omega) (by omega), show ((i : Int) + 1) = ((i + 1 : Nat) : Int) by omega]
  rfl
theorem eqProc_eq {p : RProc} (h : pz p ≤ 1048576) {N : Nat} (hN : 2000000 ≤ N) : laws_eqProc N p p = some true := by
 unfold pz at h
 unfold laws_eqProc; rw [eqIntS_eq (by omega) hN, eqIntS_eq (by omega) hN, eqInstrS_eq (by omega) hN]; simp
theorem eqProcS_eq {l : List RProc} (hl : l.length + (l.map pz).sum ≤ 1048576) {N : Nat} (hN : 2000000 ≤ N) : laws_eqProcS N l l = some true := by
 unfold laws_eqProcS
 have L := all_loop (l := l) (laws_eqProcS_L1 N l l) (fun _ _ => true) (fun n => by rw [laws_eqProcS_L1, if_neg (by simp [len_def])]) (fun n i x hx => ?_) (by omega : l.length < N)
 ·rw [allAt_all (p := fun _ => true)] at L
  simp [L, Sh.cont]
 ·have hi := (List.getElem?_eq_some_iff.1 hx).1
  have hz := mem_sum pz (List.mem_of_getElem? hx)
  rw [laws_eqProcS_L1, if_pos (by simp [len_def]; omega), get_lt hx]
  simp only [Option.bind_some]
  rw [eqProc_eq (by omega) hN, w_id (by omega) (by omega), show ((i : Int) + 1) = ((i + 1 : Nat) : Int) by omega]
  rfl
theorem eqImage_eq {x : RImage} (h : imz x ≤ 1048576) {N : Nat} (hN : 2000000 ≤ N) : laws_eqImage N x x = some true := by
 unfold imz at h
 unfold laws_eqImage; rw [eqDeclS_eq (by omega) hN, eqProcS_eq (by omega) hN]; rfl
end RC



namespace RC
open Go
def sizeB (p : RProc) : Bool := decide (1 ≤ p.regs) && (decide ((p.params.length : Int) ≤ p.regs) && (decide (p.regs ≤ 2000) && (decide (1 ≤ p.code.length) && decide (p.code.length ≤ 2000))))
def lastB (p : RProc) : Bool := match p.code[p.code.length - 1]? with | some c => decide (c.op = 23) || decide (c.op = 24) | none => false
def instrB (N : Nat) (im : RImage) (p : RProc) (at_ : Nat) (_ : RInstr) : Bool := (spec_validInstr N im p at_).getD false
def lentAll (p : RProc) : Bool := allAt (lentB p.params p.lent) 0 p.lent
structure ISmall (im : RImage) : Prop where
 decls : DSmall im.decls
 nn : nc im.decls ≤ 1048576
 pl : im.procs.length ≤ 1048576
 pp : ∀ q ∈ im.procs, q.params.length ≤ 1048576
 ll : ∀ q ∈ im.procs, q.lent.length ≤ 1048576
 cl : ∀ q ∈ im.procs, q.code.length ≤ 1048576
 ar : ∀ q ∈ im.procs, ∀ i ∈ q.code, i.args.length ≤ 1048576 ∧ i.jumps.length ≤ 1048576
theorem max_eq (l : List Int) : ∃ m : Int, (if Sh.len l > 1 then Sh.len l else 1) = m ∧ ∀ r : Int, decide (m ≤ r) = (decide (1 ≤ r) && decide ((l.length : Int) ≤ r)) := by
 refine ⟨_, rfl, fun r => ?_⟩
 rw [len_def]
 by_cases h : (l.length : Int) > 1
 ·rw [if_pos h]
  by_cases h2 : (l.length : Int) ≤ r
  ·have : (1 : Int) ≤ r := by omega
   simp [h2, this]
  ·simp [h2]
 ·rw [if_neg h]
  by_cases h2 : (1 : Int) ≤ r
  ·have : (l.length : Int) ≤ r := by omega
   simp [h2, this]
  ·simp [h2]
theorem proc_iok {im : RImage} (S : ISmall im) {p : RProc} (hp : p ∈ im.procs) (hs : sizeB p = true) {at_ : Nat} {i : RInstr} (hi : p.code[at_]? = some i) : IOK im p at_ i := by
 unfold sizeB at hs
 simp only [Bool.and_eq_true, decide_eq_true_eq] at hs
 obtain ⟨a1, a2, a3, a4, a5⟩ := hs
 have ha := S.ar p hp i (List.mem_of_getElem? hi)
 exact ⟨hi, a1, a3, a5, ha.1, ha.2, S.decls.len, S.nn, S.pl, S.pp⟩
theorem last_some {p : RProc} (hs : sizeB p = true) : ∃ c, p.code[p.code.length - 1]? = some c ∧ Sh.get p.code (Sh.w ((p.code.length : Int) - 1)) = some c ∧ lastB p = (decide (c.op = 23) || decide (c.op = 24)) := by
 unfold sizeB at hs
 simp only [Bool.and_eq_true, decide_eq_true_eq] at hs
 obtain ⟨a1, a2, a3, a4, a5⟩ := hs
 obtain ⟨c, hc, _⟩ := at_lt (l := p.code) (i := p.code.length - 1) (by omega)
 refine ⟨c, hc, ?_, ?_⟩
 ·rw [w_id (by omega) (by omega), show ((p.code.length : Int) - 1) = ((p.code.length - 1 : Nat) : Int) by omega]
  exact get_lt hc
 ·unfold lastB; rw [hc]
theorem spec_validProc_eq {im : RImage} (S : ISmall im) {p : RProc} (hp : p ∈ im.procs) {N : Nat} (hN : 2000000 ≤ N) :
  spec_validProc N im p = some (lentAll p && (sizeB p && (lastB p && allAt (instrB N im p) 0 p.code))) := by
 have b1 := S.pp p hp
 have b2 := S.ll p hp
 have b3 := S.cl p hp
 unfold spec_validProc
 rw [spec_validLent_eq b1 b2 hN]
 obtain ⟨m, hm, hmr⟩ := max_eq p.params
 rw [hm]
 simp only [Option.bind_some, inRange_eq, len_def, hmr]
 have el : allAt (lentB p.params p.lent) 0 p.lent = lentAll p := rfl
 rw [el]
 cases hl : lentAll p with
 | false => simp
 | true =>
  have e1 : (decide ((1 : Int) ≤ (p.code.length : Int)) && decide ((p.code.length : Int) ≤ 2000)) = (decide (1 ≤ p.code.length) && decide (p.code.length ≤ 2000)) := by
   congr 1 <;> exact decide_eq_decide.2 (by omega)
  rw [e1]
  by_cases hs : sizeB p = true
  ·have hs' := hs
   unfold sizeB at hs
   simp only [Bool.and_eq_true, decide_eq_true_eq] at hs
   obtain ⟨a1, a2, a3, a4, a5⟩ := hs
   obtain ⟨c, hc, hg, hla⟩ := last_some hs'
   rw [all_loop (l := p.code) (spec_validProc_L1 N im p) (instrB N im p) (fun n => by rw [spec_validProc_L1, if_neg (by simp [len_def])]) (fun n i x hx => ?_) (by omega), cont_all, hg, hla, hs']
   ·simp only [a1, a2, a3, a4, a5, decide_true, Bool.and_self, Bool.not_true, Option.bind_some, Bool.false_eq_true, if_false]
    cases allAt (instrB N im p) 0 p.code <;> by_cases h23 : c.op = 23 <;> by_cases h24 : c.op = 24 <;> simp [h23, h24]
   ·have hi := (List.getElem?_eq_some_iff.1 hx).1
    obtain ⟨b, g1, g2⟩ := instr_both (proc_iok S hp hs' hx) hN
    rw [spec_validProc_L1, if_pos (by simp [len_def]; omega), g1]
    simp only [Option.bind_some]
    have : instrB N im p i x = b := by unfold instrB; rw [g1]; rfl
    rw [this, w_id (by omega) (by omega)]
    cases b <;> simp
  ·have hs' : sizeB p = false := by cases h : sizeB p with | true => exact absurd h hs | false => rfl
   rw [hs']
   unfold sizeB at hs'
   revert hs'
   cases decide (1 ≤ p.regs) <;> cases decide ((p.params.length : Int) ≤ p.regs) <;> cases decide (p.regs ≤ 2000) <;> cases decide (1 ≤ p.code.length) <;> cases decide (p.code.length ≤ 2000) <;> simp
def procB (N : Nat) (im : RImage) (p : RProc) : Bool := sizeB p && (lastB p && allAt (instrB N im p) 0 p.code)
theorem impl_procs_eq {im : RImage} (S : ISmall im) {b : Bool} {N : Nat} (hN : 2000000 ≤ N) :
  impl_ValidImage_L1 N im (⟨im.decls, im.procs.map toS⟩, b) N 0 = some (if (im.procs.all (procB N im)) = true then .inr () else .inl false) := by
 have hpl := S.pl
 rw [← allAt_all _ 0]
 refine all_loop (l := im.procs) (impl_ValidImage_L1 N im (⟨im.decls, im.procs.map toS⟩, b)) (fun _ p => procB N im p) (fun n => by rw [impl_ValidImage_L1, if_neg (by simp [len_def])]) (fun n i p hp => ?_) (by omega)
 have hi := (List.getElem?_eq_some_iff.1 hp).1
 have hm := List.mem_of_getElem? hp
 rw [impl_ValidImage_L1, if_pos (by simp [len_def]; omega), get_lt hp]
 obtain ⟨m, hmx, hmr⟩ := max_eq p.params
 have hmr := hmr p.regs
 simp only [Option.bind_some]
 rw [hmx]
 simp only [len_def]
 have e0 : (Sh.w ((i : Int) + 1)) = ((i + 1 : Nat) : Int) := by rw [w_id (by omega) (by omega)]; omega
 rw [e0]
 by_cases hs : sizeB p = true
 ·have hs' := hs
  unfold sizeB at hs
  simp only [Bool.and_eq_true, decide_eq_true_eq] at hs
  obtain ⟨a1, a2, a3, a4, a5⟩ := hs
  obtain ⟨c, hc, hg, hla⟩ := last_some hs'
  have m0 : ¬ p.regs < m := by
   rw [decide_eq_true a1, decide_eq_true a2] at hmr
   have := of_decide_eq_true hmr
   omega
  have m1 : ¬ 2000 < p.regs := by omega
  have m2 : ¬ (p.code.length : Int) < 1 := by omega
  have m3 : ¬ 2000 < (p.code.length : Int) := by omega
  rw [hg, all_loop (l := p.code) (impl_ValidImage_L2 N p (⟨im.decls, im.procs.map toS⟩, b)) (instrB N im p) (fun n => by rw [impl_ValidImage_L2, if_neg (by simp [len_def])]) (fun n i x hx => ?_) (by omega), cont_all]
  ·simp only [m0, m1, m2, m3, decide_false, Bool.false_eq_true, if_false, Option.bind_some]
   unfold procB
   rw [hs', hla]
   cases allAt (instrB N im p) 0 p.code <;> by_cases h23 : c.op = 23 <;> by_cases h24 : c.op = 24 <;> simp [h23, h24]
  ·have hi := (List.getElem?_eq_some_iff.1 hx).1
   obtain ⟨b, g1, g2⟩ := instr_both (proc_iok S hm hs' hx) hN
   rw [impl_ValidImage_L2, if_pos (by simp [len_def]; omega), get_lt hx]
   simp only [Option.bind_some]
   unfold sgOf at g2
   rw [g2]
   have : instrB N im p i x = b := by unfold instrB; rw [g1]; rfl
   simp only [Option.bind_some]
   rw [this, w_id (by omega) (by omega)]
   cases b <;> simp
 ·have hs' : sizeB p = false := by cases h : sizeB p with | true => exact absurd h hs | false => rfl
  have hf : procB N im p = false := by unfold procB; rw [hs']; rfl
  rw [hf]
  simp only [Bool.false_eq_true, if_false]
  by_cases m0 : p.regs < m
  ·simp only [m0, decide_true, if_true, Option.bind_some]
  ·by_cases m1 : 2000 < p.regs
   ·simp only [m0, m1, decide_true, decide_false, Bool.false_eq_true, if_true, if_false, Option.bind_some]
   ·by_cases m2 : (p.code.length : Int) < 1
    ·simp only [m0, m1, m2, decide_true, decide_false, Bool.false_eq_true, if_true, if_false, Option.bind_some]
    ·by_cases m3 : 2000 < (p.code.length : Int)
     ·simp only [m0, m1, m2, m3, decide_true, decide_false, Bool.false_eq_true, if_true, if_false, Option.bind_some]
     ·exfalso
      refine hs ?_
      unfold sizeB
      simp only [Bool.and_eq_true, decide_eq_true_eq]
      rw [decide_eq_true (by omega : m ≤ p.regs)] at hmr
      have hmr := hmr.symm
      simp only [Bool.and_eq_true, decide_eq_true_eq] at hmr
      omega
theorem spec_procs_eq {im : RImage} (S : ISmall im) {N : Nat} (hN : 2000000 ≤ N) :
  spec_validImage_L1 N im N 0 = some (if (im.procs.all fun p => lentAll p && procB N im p) = true then .inr () else .inl false) := by
 have hpl := S.pl
 rw [← allAt_all _ 0]
 refine all_loop (l := im.procs) (spec_validImage_L1 N im) (fun _ p => lentAll p && procB N im p) (fun n => by rw [spec_validImage_L1, if_neg (by simp [len_def])]) (fun n i p hp => ?_) (by omega)
 have hi := (List.getElem?_eq_some_iff.1 hp).1
 rw [spec_validImage_L1, if_pos (by simp [len_def]; omega), get_lt hp]
 simp only [Option.bind_some]
 rw [spec_validProc_eq S (List.mem_of_getElem? hp) hN]
 simp only [Option.bind_some]
 have e0 : (Sh.w ((i : Int) + 1)) = ((i + 1 : Nat) : Int) := by rw [w_id (by omega) (by omega)]; omega
 have e1 : (lentAll p && (sizeB p && (lastB p && allAt (instrB N im p) 0 p.code))) = (lentAll p && procB N im p) := rfl
 rw [e0, e1]
 cases (lentAll p && procB N im p) <;> simp
theorem ValidImage_both {im : RImage} (S : ISmall im) {N : Nat} (hN : 2000000 ≤ N) : ∃ b, spec_ValidImage N im = some b ∧ impl_ValidImage N im = some b := by
 have hpl := S.pl
 refine ⟨decide (im.procs.length ≤ 4) && ((sigsB im.decls (im.procs.map fun p => (p.params, p.result)) && im.procs.all lentAll) && im.procs.all (procB N im)), ?_, ?_⟩
 ·unfold spec_ValidImage spec_validImage
  rw [spec_sigsOfImage_eq hpl hN]
  simp only [Option.bind_some, len_def]
  rw [spec_validSigs_eq (p := ⟨im.decls, im.procs.map toF⟩) S.decls (by simpa using hpl) (fun f hf => by obtain ⟨q, hq, rfl⟩ := List.mem_map.1 hf; exact S.pp q hq) hN]
  rw [spec_procs_eq S hN, cont_all]
  have e2 : (im.procs.all fun p => lentAll p && procB N im p) = (im.procs.all lentAll && im.procs.all (procB N im)) := by
   induction im.procs with
   | nil => rfl
   | cons x r ih => simp only [List.all_cons, ih]; cases lentAll x <;> cases procB N im x <;> cases r.all lentAll <;> rfl
  have e3 : (List.map (fun f : RFunc => (f.params, f.result)) (List.map toF im.procs)) = im.procs.map fun p => (p.params, p.result) := by
   rw [List.map_map]; rfl
  rw [e2, e3]
  by_cases h4 : im.procs.length ≤ 4
  ·have h4' : ¬ 4 < (im.procs.length : Int) := by omega
   simp only [h4, h4', decide_true, decide_false, Bool.false_eq_true, if_false, Option.bind_some]
   cases sigsB im.decls (im.procs.map fun p => (p.params, p.result)) <;> cases im.procs.all lentAll <;> cases im.procs.all (procB N im) <;> simp
  ·have h4' : 4 < (im.procs.length : Int) := by omega
   simp [h4, h4']
 ·unfold impl_ValidImage impl_imageSigs
  rw [len_def]
  by_cases h4 : im.procs.length ≤ 4
  ·have h4' : ¬ 4 < (im.procs.length : Int) := by omega
   simp only [h4, h4', decide_true, decide_false, Bool.false_eq_true, if_false]
   rw [impl_sigs_list hpl hN]
   simp only [Option.bind_some]
   rw [impl_validSigs_eq S.decls (by simpa using hpl) (fun f hf => by obtain ⟨q, hq, rfl⟩ := List.mem_map.1 hf; exact ⟨S.pp q hq, S.ll q hq⟩) hN]
   simp only [Option.bind_some]
   rw [impl_procs_eq S hN, cont_all]
   have e3 : (List.map (fun f : RSignature => (f.params, f.result)) (List.map toS im.procs)) = im.procs.map fun p => (p.params, p.result) := by
    rw [List.map_map]; rfl
   have e4 : ((List.map toS im.procs).all fun f => allAt (lentB f.params f.lent) 0 f.lent) = im.procs.all lentAll := by
    rw [List.all_map]; rfl
   rw [e3, e4]
   cases sigsB im.decls (im.procs.map fun p => (p.params, p.result)) <;> cases im.procs.all lentAll <;> cases im.procs.all (procB N im) <;> simp
  ·have h4' : 4 < (im.procs.length : Int) := by omega
   simp [h4, h4']
theorem nc_le (D : List RDecl) : nc D ≤ (D.map dz).sum := by
 unfold nc
 induction D with
 | nil => exact Nat.le_refl _
 | cons d r ih => simp only [List.map_cons, List.sum_cons]; unfold dz at *; omega
theorem small_of {im : RImage} (h : imz im ≤ 1048576) : ISmall im := by
 unfold imz at h
 have hn := nc_le im.decls
 have hd : ∀ d ∈ im.decls, dz d ≤ 1048576 := fun d hd => by have := mem_sum dz hd; omega
 have hp : ∀ p ∈ im.procs, pz p ≤ 1048576 := fun p hp => by have := mem_sum pz hp; omega
 refine ⟨⟨by omega, fun d hm => ?_, fun d hm c hc => ?_⟩, by omega, by omega, fun p hm => ?_, fun p hm => ?_, fun p hm => ?_, fun p hm i hi => ?_⟩
 ·have := hd d hm; unfold dz at this; omega
 ·have := hd d hm; unfold dz at this
  have := mem_sum cz hc
  show cz c ≤ _
  omega
 ·have := hp p hm; unfold pz at this; omega
 ·have := hp p hm; unfold pz at this; omega
 ·have := hp p hm; unfold pz at this; omega
 ·have := hp p hm; unfold pz at this
  have := mem_sum iz hi
  have e : iz i = i.args.length + i.jumps.length := rfl
  omega
end RC

