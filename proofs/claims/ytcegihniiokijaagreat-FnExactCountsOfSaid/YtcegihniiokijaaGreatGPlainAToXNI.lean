import Derived.Test.YtcegihniiokijaaGreatGEncToEncB
import Derived.Test.YtcegihniiokijaaGreatHADefs
import Derived.Test.YtcegihniiokijaaGreatIADefs
import Derived.Test.YtcegihniiokijaaGreatCSDefs
import Derived.Test.YtcegihniiokijaaGreatSADefs
import Derived.Test.YtcegihniiokijaaGreatIPDefs

namespace RC
open Go
theorem w_id {n : Int} (h1 : -9223372036854775808 ≤ n) (h2 : n ≤ 9223372036854775807) : Sh.w n = n := Abs.wrap_i64 h1 h2
theorem len_def {α : Type} (l : List α) : Sh.len l = (l.length : Int) := rfl
theorem get_nat {α : Type} (l : List α) (i : Nat) : Sh.get l (i : Int) = l[i]? := by
 unfold Sh.get; rw [if_pos (Int.natCast_nonneg i)]; simp
theorem get_lt {α : Type} {l : List α} {i : Nat} {x : α} (h : l[i]? = some x) : Sh.get l (i : Int) = some x := by rw [get_nat, h]
theorem get_pos {α : Type} {l : List α} {j : Int} (h0 : 0 ≤ j) (h1 : j < l.length) : ∃ x, Sh.get l j = some x ∧ l[j.toNat]? = some x := by
 have h : l[j.toNat]? = some (l[j.toNat]'(by omega)) := List.getElem?_eq_getElem (by omega)
 exact ⟨_, by unfold Sh.get; rw [if_pos h0, h], h⟩
theorem get_pos' {α : Type} {l : List α} {j : Int} (h0 : 0 ≤ j) : Sh.get l j = l[j.toNat]? := by unfold Sh.get; rw [if_pos h0]
theorem put_nat {α : Type} (l : List α) (i : Nat) (x : α) : Sh.put l (i : Int) x = l.set i x := by simp [Sh.put]
theorem mk_ok {α : Type} (x : α) (n b : Nat) (h : n * b ≤ 281474976710656) (h2 : n ≤ 9223372036854775807) : Sh.mk x (n : Int) b = some (List.replicate n x) := by
 unfold Sh.mk
 rw [if_pos ⟨by omega, by rw [← Int.natCast_mul]; omega, by omega⟩]; simp
theorem app_ok {α : Type} (l m : List α) (b : Nat) (h : (l.length + m.length) * b ≤ 140737488355328) (h2 : l.length + m.length ≤ 9223372036854775807) : Sh.app l m b = some (l ++ m) := by
 unfold Sh.app; rw [if_pos ⟨h, h2⟩]
theorem hi_ok {α : Type} {l : List α} {j : Nat} (h : j ≤ l.length) : Sh.hi l (j : Int) = some (l.take j) := by
 unfold Sh.hi; rw [if_pos ⟨by omega, by omega⟩]; simp
theorem loop_ind (len : Nat) (P : Nat → Nat → Prop) (h0 : ∀ n, P (n + 1) len) (hs : ∀ n i, i < len → P n (i + 1) → P (n + 1) i) : ∀ {N i : Nat}, i ≤ len → len - i < N → P N i := by
 intro N i hi hN
 obtain ⟨k, hk⟩ : ∃ k, len - i = k := ⟨_, rfl⟩
 induction k generalizing N i with
 | zero =>
  obtain ⟨n, rfl⟩ : ∃ n, N = n + 1 := ⟨N - 1, by omega⟩
  have : i = len := by omega
  subst this; exact h0 n
 | succ k ih =>
  obtain ⟨n, rfl⟩ : ∃ n, N = n + 1 := ⟨N - 1, by omega⟩
  exact hs n i (by omega) (ih (by omega) (by omega) (by omega))
theorem at_lt {α : Type} {l : List α} {i : Nat} (h : i < l.length) : ∃ x, l[i]? = some x ∧ x ∈ l := ⟨l[i], List.getElem?_eq_getElem h, List.getElem_mem h⟩
theorem take_snoc {α : Type} {l : List α} {j : Nat} {x : α} (h : l[j]? = some x) : l.take (j + 1) = l.take j ++ [x] := by rw [List.take_add_one, h]; rfl
theorem drop_cons {α : Type} {l : List α} {j : Nat} {x : α} (h : l[j]? = some x) : l.drop j = x :: l.drop (j + 1) := by
 obtain ⟨hj, rfl⟩ := List.getElem?_eq_some_iff.1 h
 exact List.drop_eq_getElem_cons hj
def fsum (h : List Cell) : Nat := (h.map fun c => c.fields.length).sum
def hsize (h : List Cell) : Nat := h.length + fsum h
structure Hp (h : List Cell) : Prop where
 size : hsize h ≤ 1048576
 cells : ∀ c ∈ h, CellIn c
theorem fsum_mem {h : List Cell} {c : Cell} (hc : c ∈ h) : c.fields.length ≤ fsum h := by
 induction h with
 | nil => cases hc
 | cons d h ih =>
  simp only [fsum, List.map_cons, List.sum_cons] at ih ⊢
  rcases List.mem_cons.1 hc with rfl | hc
  ·omega
  ·have := ih hc; omega
theorem Hp.len {h : List Cell} (H : Hp h) : h.length ≤ 1048576 := by have := H.size; unfold hsize at this; omega
theorem Hp.flen {h : List Cell} (H : Hp h) {c : Cell} (hc : c ∈ h) : c.fields.length ≤ 1048576 := by have := H.size; have := fsum_mem hc; unfold hsize at *; omega
end RC



namespace RC
open Go
def allAt {α : Type} (f : Nat → α → Bool) : Nat → List α → Bool
 | _, [] => true
 | k, x :: r => f k x && allAt f (k + 1) r
theorem allAt_congr {α : Type} {f g : Nat → α → Bool} : ∀ (l : List α) (k : Nat), (∀ (i : Nat) x, l[i]? = some x → f (k + i) x = g (k + i) x) → allAt f k l = allAt g k l
 | [], _, _ => rfl
 | x :: r, k, h => by
  have h0 := h 0 x rfl
  rw [Nat.add_zero] at h0
  have h1 := allAt_congr r (k + 1) fun i y hy => (show k + (i + 1) = k + 1 + i by omega) ▸ h (i + 1) y hy
  rw [allAt, allAt, h0, h1]
theorem allAt_all {α : Type} {p : α → Bool} : ∀ (l : List α) (k : Nat), allAt (fun _ x => p x) k l = l.all p
 | [], _ => rfl
 | x :: r, k => by rw [allAt, allAt_all r (k + 1), List.all_cons]
theorem all_loop {α : Type} {l : List α} (L : Nat → Int → Option (Bool ⊕ Unit)) (f : Nat → α → Bool) (h0 : ∀ n, L (n + 1) (l.length : Int) = some (.inr ()))
  (hs : ∀ n (i : Nat) x, l[i]? = some x → L (n + 1) (i : Int) = if f i x = true then L n ((i + 1 : Nat) : Int) else some (.inl false)) {N : Nat} (hN : l.length < N) :
  L N 0 = some (if allAt f 0 l = true then .inr () else .inl false) := by
 have key : ∀ {N i : Nat}, i ≤ l.length → l.length - i < N → L N (i : Int) = some (if allAt f i (l.drop i) = true then .inr () else .inl false) := by
  intro N i hi hN
  refine loop_ind l.length (fun N i => L N (i : Int) = some (if allAt f i (l.drop i) = true then .inr () else .inl false)) ?_ ?_ hi hN
  ·intro n; rw [h0 n]; simp [allAt]
  ·intro n i hi ih
   obtain ⟨x, hx, _⟩ := at_lt hi
   rw [hs n i x hx, ih, drop_cons hx, allAt]
   cases h : f i x <;> simp
 have := key (Nat.zero_le _) (by omega : l.length - 0 < N)
 simpa using this
theorem cont_all {β : Type} {b : Bool} {g : Bool → β} {K : Unit → Option β} : Sh.cont (some (if b = true then Sum.inr () else Sum.inl false)) g K = if b = true then K () else some (g false) := by
 cases b <;> rfl
theorem sl_take {α : Type} {l : List α} {j : Nat} (h : j ≤ l.length) (h2 : l.length ≤ 9223372036854775807) : Sh.sl l 0 (j : Int) = some (l.take j) := by
 unfold Sh.sl
 rw [if_pos ⟨by omega, by omega, by omega⟩]; simp
end RC


namespace RC
open Go
theorem szIntS_eq {l : List Int} {left : Int} (h0 : 0 ≤ left) (h1 : left ≤ 1048576) (hl : l.length ≤ 9223372036854775807) : laws_szIntS l left = some (if left - l.length < 0 then -1 else left - l.length) := by
 unfold laws_szIntS
 rw [len_def, w_id (by omega) (by omega)]
 by_cases h : left - l.length < 0 <;> simp [h]
theorem toIntS_L1_eq {l : List Int} (hl : l.length ≤ 1048576) {N i : Nat} (hi : i ≤ l.length) (hN : l.length - i < N) : ∀ m : List Int, m.length = l.length → m.take i = l.take i → laws_toIntS_L1 l N i m = some l := by
 refine loop_ind l.length (fun N i => ∀ m : List Int, m.length = l.length → m.take i = l.take i → laws_toIntS_L1 l N i m = some l) ?_ ?_ hi hN
 ·intro n m hm ht
  rw [laws_toIntS_L1, if_neg (by simp [len_def])]
  rw [List.take_of_length_le (by omega), List.take_length] at ht
  rw [ht]
 ·intro n i hi ih m hm ht
  obtain ⟨x, hx, _⟩ := at_lt hi
  obtain ⟨y, hy, _⟩ := at_lt (l := m) (i := i) (by omega)
  rw [laws_toIntS_L1, if_pos (by simp [len_def]; omega), get_lt hx]
  simp only [Option.bind_some]
  rw [get_lt hy]
  simp only [Option.bind_some]
  rw [w_id (by omega) (by omega), put_nat, show ((i : Int) + 1) = ((i + 1 : Nat) : Int) by omega]
  refine ih _ (by simp [hm]) ?_
  rw [take_snoc hx, take_snoc (x := x) (by rw [List.getElem?_set]; simp; omega), List.take_set_of_le (Nat.le_refl _), ht]
theorem toIntS_eq {l : List Int} (hl : l.length ≤ 1048576) {N : Nat} (hN : 2000000 ≤ N) : laws_toIntS N l = some l := by
 unfold laws_toIntS
 rw [len_def, mk_ok 0 l.length 8 (by omega) (by omega)]
 simp only [Option.bind_some]
 have := toIntS_L1_eq hl (Nat.zero_le _) (by omega : l.length - 0 < N) (List.replicate l.length 0) (by simp) (by simp)
 rw [show ((0 : Nat) : Int) = 0 from rfl] at this
 rw [this]; rfl
theorem eqIntS_L1_eq {l : List Int} (hl : l.length ≤ 1048576) {N i : Nat} (hi : i ≤ l.length) (hN : l.length - i < N) : laws_eqIntS_L1 l l N i = some (Sum.inr ()) := by
 refine loop_ind l.length (fun N i => laws_eqIntS_L1 l l N i = some (Sum.inr ())) ?_ ?_ hi hN
 ·intro n
  rw [laws_eqIntS_L1, if_neg (by simp [len_def])]
 ·intro n i hi ih
  obtain ⟨x, hx, _⟩ := at_lt hi
  rw [laws_eqIntS_L1, if_pos (by simp [len_def]; omega), get_lt hx]
  simp only [Option.bind_some]
  rw [w_id (by omega) (by omega), show ((i : Int) + 1) = ((i + 1 : Nat) : Int) by omega]
  simpa using ih
theorem eqIntS_eq {l : List Int} (hl : l.length ≤ 1048576) {N : Nat} (hN : 2000000 ≤ N) : laws_eqIntS N l l = some true := by
 unfold laws_eqIntS
 have := eqIntS_L1_eq hl (Nat.zero_le _) (by omega : l.length - 0 < N)
 rw [show ((0 : Nat) : Int) = 0 from rfl] at this
 simp [this]
end RC


namespace RC
open Go
theorem inRange_eq (a b c : Int) : spec_inRange a b c = some (decide (b ≤ a) && decide (a ≤ c)) := by
 unfold spec_inRange
 by_cases h : b ≤ a <;> simp [h]
end RC



namespace RC
open Go
def tyB (D : List RDecl) (t : Int) : Bool := decide (0 ≤ t) && decide (t ≤ (D.length : Int))
theorem inRange_ty {D : List RDecl} {x : Int} : spec_inRange x 0 (Sh.len D) = some (tyB D x) := by rw [inRange_eq]; rfl
theorem spec_allTypes_eq {D : List RDecl} {l : List Int} (hl : l.length ≤ 1048576) {N : Nat} (hN : l.length < N) : spec_allTypes N D l = some (l.all (tyB D)) := by
 unfold spec_allTypes
 rw [all_loop (l := l) (spec_allTypes_L1 D l) (fun _ x => tyB D x) (fun n => by rw [spec_allTypes_L1, if_neg (by simp [len_def])]) (fun n i x hx => ?_) hN, cont_all, allAt_all]
 ·cases l.all (tyB D) <;> rfl
 ·have hi := (List.getElem?_eq_some_iff.1 hx).1
  rw [spec_allTypes_L1, if_pos (by simp [len_def]; omega), get_lt hx]
  simp only [Option.bind_some]
  rw [inRange_ty, w_id (by omega) (by omega), show ((i : Int) + 1) = ((i + 1 : Nat) : Int) by omega]
  simp only [Option.bind_some]
  cases tyB D x <;> rfl
theorem impl_isType_eq {D : List RDecl} {t : Int} : impl_isType D t = some (tyB D t) := by
 unfold impl_isType tyB
 by_cases h : 0 ≤ t <;> by_cases h2 : t ≤ (D.length : Int) <;> simp [h, h2, len_def]
theorem impl_allTypes_eq {D : List RDecl} {l : List Int} (hl : l.length ≤ 1048576) {N : Nat} (hN : l.length < N) : impl_allTypes N D l = some (l.all (tyB D)) := by
 unfold impl_allTypes
 rw [all_loop (l := l) (impl_allTypes_L1 D l) (fun _ x => tyB D x) (fun n => by rw [impl_allTypes_L1, if_neg (by simp [len_def])]) (fun n i x hx => ?_) hN, cont_all, allAt_all]
 ·cases l.all (tyB D) <;> rfl
 ·have hi := (List.getElem?_eq_some_iff.1 hx).1
  rw [impl_allTypes_L1, if_pos (by simp [len_def]; omega), get_lt hx]
  simp only [Option.bind_some]
  rw [impl_isType_eq, w_id (by omega) (by omega), show ((i : Int) + 1) = ((i + 1 : Nat) : Int) by omega]
  simp only [Option.bind_some]
  cases tyB D x <;> rfl
def conB (D : List RDecl) (c : RCon) : Bool := decide (c.fields.length ≤ 3) && c.fields.all (tyB D)
def sameArrow (a b : RDecl) : Bool := decide (a.cons.length = 0) && (decide (a.from_ = b.from_) && decide (a.to = b.to))
def declB (D : List RDecl) (i : Nat) (d : RDecl) : Bool :=
 if 0 < d.cons.length then (decide (d.cons.length ≤ 3) && (decide (d.from_ = 0) && decide (d.to = 0))) && d.cons.all (conB D)
 else (D.take i).all (fun e => !sameArrow e d) && (tyB D d.from_ && tyB D d.to)
def declI (D : List RDecl) (i : Nat) (d : RDecl) : Bool :=
 ((tyB D d.from_ && (tyB D d.to && (decide (d.cons.length ≤ 3) && (!(decide (0 < d.cons.length) && (!decide (d.from_ = 0) || !decide (d.to = 0))))))) && d.cons.all (conB D)) && (D.take i).all (fun e => !(decide (d.cons.length = 0) && sameArrow e d))
theorem decl_same (D : List RDecl) (i : Nat) (d : RDecl) : declI D i d = declB D i d := by
 unfold declI declB
 by_cases h : 0 < d.cons.length
 ·have h0 : ¬ d.cons.length = 0 := by omega
  have ha : (D.take i).all (fun e => !(decide (d.cons.length = 0) && sameArrow e d)) = true := by simp [h0]
  rw [if_pos h, ha]
  by_cases h1 : d.from_ = 0 <;> by_cases h2 : d.to = 0 <;> simp [h, h1, h2, tyB]
 ·have h0 : d.cons.length = 0 := by omega
  have hc : d.cons = [] := List.eq_nil_of_length_eq_zero h0
  rw [if_neg h]
  simp only [hc, h0, List.length_nil, List.all_nil, decide_true, Bool.true_and, Bool.and_true]
  cases tyB D d.from_ <;> cases tyB D d.to <;> simp
structure DSmall (D : List RDecl) : Prop where
 len : D.length ≤ 1048576
 cons : ∀ d ∈ D, d.cons.length ≤ 1048576
 flds : ∀ d ∈ D, ∀ c ∈ d.cons, c.fields.length ≤ 1048576
theorem spec_validDecl_eq {D : List RDecl} (hD : DSmall D) {i : Nat} {d : RDecl} (hd : D[i]? = some d) {N : Nat} (hN : 2000000 ≤ N) : spec_validDecl N D i = some (declB D i d) := by
 have hm := List.mem_of_getElem? hd
 have hi := (List.getElem?_eq_some_iff.1 hd).1
 have hlen := hD.len
 have hc := hD.cons d hm
 unfold spec_validDecl declB
 rw [get_lt hd]
 simp only [Option.bind_some]
 by_cases h : 0 < d.cons.length
 ·rw [if_pos (by simp [len_def]; omega), if_pos h]
  rw [all_loop (l := d.cons) (spec_validDecl_L1 N d D) (fun _ c => conB D c) (fun n => by rw [spec_validDecl_L1, if_neg (by simp [len_def])]) (fun n j c hj => ?_) (by omega), cont_all, allAt_all]
  ·simp only [len_def]
   by_cases h3 : d.cons.length ≤ 3
   ·have e3 : ¬ (3 : Int) < (d.cons.length : Int) := by omega
    generalize d.cons.all (conB D) = z
    cases z <;> by_cases h1 : d.from_ = 0 <;> by_cases h2 : d.to = 0 <;> simp [h1, h2, h3, e3]
   ·have e3 : (3 : Int) < (d.cons.length : Int) := by omega
    simp [h3, e3]
  ·have hj' := (List.getElem?_eq_some_iff.1 hj).1
   have hf := hD.flds d hm c (List.mem_of_getElem? hj)
   rw [spec_validDecl_L1, if_pos (by simp [len_def]; omega), get_lt hj]
   simp only [Option.bind_some]
   rw [spec_allTypes_eq hf (by omega), w_id (by omega) (by omega), show ((j : Int) + 1) = ((j + 1 : Nat) : Int) by omega]
   unfold conB
   by_cases h3 : c.fields.length ≤ 3
   ·have e3 : ¬ (3 : Int) < (c.fields.length : Int) := by omega
    simp only [len_def]
    cases c.fields.all (tyB D) <;> simp [h3, e3]
   ·have e3 : (3 : Int) < (c.fields.length : Int) := by omega
    simp [h3, e3, len_def]
 ·have h0 : d.cons.length = 0 := by omega
  have e0 : ¬ decide ((0 : Int) < Sh.len d.cons) = true := by rw [len_def, h0]; simp
  rw [if_neg e0, if_neg h]
  have hlt : (D.take i).length = i := by simp; omega
  rw [all_loop (l := D.take i) (spec_validDecl_L2 d D i) (fun _ e => !sameArrow e d) (fun n => by rw [spec_validDecl_L2, if_neg (by simp; omega)]) (fun n j e hj => ?_) (by omega), cont_all, allAt_all]
  ·rw [inRange_ty, inRange_ty]
   simp only [Option.bind_some]
   cases (D.take i).all (fun e => !sameArrow e d) <;> cases tyB D d.from_ <;> simp
  ·have hj' := (List.getElem?_eq_some_iff.1 hj).1
   have hje : D[j]? = some e := by rw [List.getElem?_take] at hj; split at hj <;> first | exact hj | cases hj
   rw [spec_validDecl_L2, if_pos (by simp; omega), get_lt hje]
   simp only [Option.bind_some]
   rw [w_id (by omega) (by omega), show ((j : Int) + 1) = ((j + 1 : Nat) : Int) by omega]
   unfold sameArrow
   simp only [len_def]
   by_cases a0 : e.cons.length = 0 <;> by_cases a1 : e.from_ = d.from_ <;> by_cases a2 : e.to = d.to <;> simp [a0, a1, a2]
def typesB (D : List RDecl) : Bool := decide (D.length ≤ 4) && allAt (declB D) 0 D
theorem spec_validTypes_eq {D : List RDecl} (hD : DSmall D) {N : Nat} (hN : 2000000 ≤ N) : spec_validTypes N D = some (typesB D) := by
 have hlen := hD.len
 unfold spec_validTypes typesB
 rw [all_loop (l := D) (spec_validTypes_L1 N D) (declB D) (fun n => by rw [spec_validTypes_L1, if_neg (by simp [len_def])]) (fun n i d hd => ?_) (by omega), cont_all]
 ·simp only [len_def]
  by_cases h : D.length ≤ 4
  ·have e4 : ¬ (4 : Int) < (D.length : Int) := by omega
   cases allAt (declB D) 0 D <;> simp [h, e4]
  ·have e4 : (4 : Int) < (D.length : Int) := by omega
   simp [h, e4]
 ·have hi := (List.getElem?_eq_some_iff.1 hd).1
  rw [spec_validTypes_L1, if_pos (by simp [len_def]; omega), spec_validDecl_eq hD hd hN]
  simp only [Option.bind_some]
  rw [w_id (by omega) (by omega), show ((i : Int) + 1) = ((i + 1 : Nat) : Int) by omega]
  cases declB D i d <;> rfl
theorem impl_ValidTypes_eq {D : List RDecl} (hD : DSmall D) {N : Nat} (hN : 2000000 ≤ N) : impl_ValidTypes N D = some (typesB D) := by
 have hlen := hD.len
 unfold impl_ValidTypes typesB
 rw [← allAt_congr (f := declI D) D 0 (fun i d _ => decl_same D _ d)]
 rw [all_loop (l := D) (impl_ValidTypes_L1 N D) (declI D) (fun n => by rw [impl_ValidTypes_L1, if_neg (by simp [len_def])]) (fun n i d hd => ?_) (by omega), cont_all]
 ·simp only [len_def]
  by_cases h : D.length ≤ 4
  ·have e4 : ¬ (4 : Int) < (D.length : Int) := by omega
   cases allAt (declI D) 0 D <;> simp [h, e4]
  ·have e4 : (4 : Int) < (D.length : Int) := by omega
   simp [h, e4]
 ·have hi := (List.getElem?_eq_some_iff.1 hd).1
  have hm := List.mem_of_getElem? hd
  have hc := hD.cons d hm
  have l2 : impl_ValidTypes_L2 N d D N 0 = some (if d.cons.all (conB D) = true then .inr () else .inl false) := by
   rw [all_loop (l := d.cons) (impl_ValidTypes_L2 N d D) (fun _ c => conB D c) (fun n => by rw [impl_ValidTypes_L2, if_neg (by simp [len_def])]) (fun n j c hj => ?_) (by omega), allAt_all]
   have hj' := (List.getElem?_eq_some_iff.1 hj).1
   have hf := hD.flds d hm c (List.mem_of_getElem? hj)
   rw [impl_ValidTypes_L2, if_pos (by simp [len_def]; omega), get_lt hj]
   simp only [Option.bind_some]
   rw [impl_allTypes_eq hf (by omega), w_id (by omega) (by omega), show ((j : Int) + 1) = ((j + 1 : Nat) : Int) by omega]
   unfold conB
   by_cases h3 : c.fields.length ≤ 3
   ·have e3 : ¬ (3 : Int) < (c.fields.length : Int) := by omega
    simp only [len_def]
    cases c.fields.all (tyB D) <;> simp [h3, e3]
   ·have e3 : (3 : Int) < (c.fields.length : Int) := by omega
    simp [h3, e3, len_def]
  have hlt : (D.take i).length = i := by simp; omega
  have l3 : impl_ValidTypes_L3 d (D.take i) N 0 = some (if (D.take i).all (fun e => !(decide (d.cons.length = 0) && sameArrow e d)) = true then .inr () else .inl false) := by
   rw [all_loop (l := D.take i) (impl_ValidTypes_L3 d (D.take i)) (fun _ e => !(decide (d.cons.length = 0) && sameArrow e d)) (fun n => by rw [impl_ValidTypes_L3, if_neg (by simp [len_def])]) (fun n j e hj => ?_) (by omega), allAt_all]
   have hj' := (List.getElem?_eq_some_iff.1 hj).1
   rw [impl_ValidTypes_L3, if_pos (by simp only [len_def]; simp; omega), get_lt hj]
   simp only [Option.bind_some]
   rw [w_id (by omega) (by omega), show ((j : Int) + 1) = ((j + 1 : Nat) : Int) by omega]
   unfold sameArrow
   simp only [len_def]
   by_cases b0 : d.cons.length = 0 <;> by_cases a0 : e.cons.length = 0 <;> by_cases a1 : e.from_ = d.from_ <;> by_cases a2 : e.to = d.to <;> simp [a0, a1, a2, b0]
  rw [impl_ValidTypes_L1, if_pos (by simp [len_def]; omega), get_lt hd]
  simp only [Option.bind_some]
  rw [impl_isType_eq, impl_isType_eq, l2, sl_take (by omega) (by omega), w_id (by omega) (by omega), show ((i : Int) + 1) = ((i + 1 : Nat) : Int) by omega]
  simp only [Option.bind_some]
  rw [l3, cont_all, cont_all]
  unfold declI
  simp only [len_def]
  generalize d.cons.all (conB D) = z1
  generalize (D.take i).all (fun e => !(decide (d.cons.length = 0) && sameArrow e d)) = z2
  by_cases h3 : d.cons.length ≤ 3
  ·have e3 : ¬ (3 : Int) < (d.cons.length : Int) := by omega
   by_cases h0 : 0 < d.cons.length
   ·have e0 : (0 : Int) < (d.cons.length : Int) := by omega
    cases tyB D d.from_ <;> cases tyB D d.to <;> cases z1 <;> cases z2 <;> by_cases h1 : d.from_ = 0 <;> by_cases h2 : d.to = 0 <;> simp [h1, h2, h3, e3, h0]
   ·have e0 : ¬ (0 : Int) < (d.cons.length : Int) := by omega
    cases tyB D d.from_ <;> cases tyB D d.to <;> cases z1 <;> cases z2 <;> simp [h3, e3, h0]
  ·have e3 : (3 : Int) < (d.cons.length : Int) := by omega
   cases tyB D d.from_ <;> cases tyB D d.to <;> simp [h3, e3]
end RC



namespace RC
open Go
def lentB (ps ls : List Int) (i : Nat) (v : Int) : Bool :=
 (decide (0 ≤ v) && decide (v < (ps.length : Int))) && (!decide (ps[v.toNat]? = some 0) && !(decide (0 < i) && decide (v ≤ (ls[i - 1]?).getD 0)))
theorem prev_get {ls : List Int} {i : Nat} (h0 : 0 < i) (hi : i < ls.length) : ∃ x, ls[i - 1]? = some x ∧ Sh.get ls (((i : Nat) : Int) - 1) = some x := by
 obtain ⟨x, hx, _⟩ := at_lt (l := ls) (i := i - 1) (by omega)
 exact ⟨x, hx, by rw [show ((i : Int) - 1) = ((i - 1 : Nat) : Int) by omega, get_lt hx]⟩
theorem spec_validLent_eq {ps ls : List Int} (hp : ps.length ≤ 1048576) (hl : ls.length ≤ 1048576) {N : Nat} (hN : 2000000 ≤ N) : spec_validLent N ps ls = some (allAt (lentB ps ls) 0 ls) := by
 unfold spec_validLent
 rw [all_loop (l := ls) (spec_validLent_L1 ps ls) (lentB ps ls) (fun n => by rw [spec_validLent_L1, if_neg (by simp [len_def])]) (fun n i v hv => ?_) (by omega), cont_all]
 ·cases allAt (lentB ps ls) 0 ls <;> rfl
 ·have hi := (List.getElem?_eq_some_iff.1 hv).1
  rw [spec_validLent_L1, if_pos (by simp [len_def]; omega), get_lt hv]
  simp only [Option.bind_some]
  rw [inRange_eq, len_def, w_id (n := (ps.length : Int) - 1) (by omega) (by omega), w_id (n := (i : Int) + 1) (by omega) (by omega), w_id (n := (i : Int) - 1) (by omega) (by omega), show ((i : Int) + 1) = ((i + 1 : Nat) : Int) by omega]
  simp only [Option.bind_some]
  unfold lentB
  by_cases h0 : 0 ≤ v
  ·by_cases h1 : v < (ps.length : Int)
   ·have h1' : v ≤ (ps.length : Int) - 1 := by omega
    obtain ⟨c, e1, e2⟩ := get_pos h0 h1
    rw [e1, e2]
    by_cases hi0 : 0 < i
    ·obtain ⟨x, g1, g2⟩ := prev_get hi0 hi
     rw [g1, g2]
     by_cases hc : c = 0 <;> by_cases hx : v ≤ x <;> simp [h0, h1, h1', hc, hi0, hx]
    ·by_cases hc : c = 0 <;> simp [h0, h1, h1', hc, hi0]
   ·have h1' : ¬ v ≤ (ps.length : Int) - 1 := by omega
    simp [h0, h1, h1']
  ·simp [h0]
theorem impl_lent_eq {c : RSignature} (hp : c.params.length ≤ 1048576) (hl : c.lent.length ≤ 1048576) {N : Nat} (hN : 2000000 ≤ N) : impl_validSigs_L2 c N 0 = some (if allAt (lentB c.params c.lent) 0 c.lent = true then .inr () else .inl false) := by
 refine all_loop (l := c.lent) (impl_validSigs_L2 c) (lentB c.params c.lent) (fun n => by rw [impl_validSigs_L2, if_neg (by simp [len_def])]) (fun n i v hv => ?_) (by omega)
 have hi := (List.getElem?_eq_some_iff.1 hv).1
 rw [impl_validSigs_L2, if_pos (by simp [len_def]; omega), get_lt hv]
 simp only [Option.bind_some]
 rw [len_def, w_id (n := (i : Int) + 1) (by omega) (by omega), w_id (n := (i : Int) - 1) (by omega) (by omega), show ((i : Int) + 1) = ((i + 1 : Nat) : Int) by omega]
 unfold lentB
 by_cases h0 : 0 ≤ v
 ·have h0' : ¬ v < 0 := by omega
  by_cases h1 : v < (c.params.length : Int)
  ·have h1' : ¬ (c.params.length : Int) ≤ v := by omega
   obtain ⟨d, e1, e2⟩ := get_pos h0 h1
   rw [e1, e2]
   by_cases hi0 : 0 < i
   ·obtain ⟨x, g1, g2⟩ := prev_get hi0 hi
    rw [g1, g2]
    by_cases hc : d = 0 <;> by_cases hx : v ≤ x <;> simp [h0, h0', h1, h1', hc, hi0, hx]
   ·by_cases hc : d = 0 <;> simp [h0, h0', h1, h1', hc, hi0]
  ·have h1' : (c.params.length : Int) ≤ v := by omega
   simp [h0, h0', h1, h1']
 ·have h0' : v < 0 := by omega
  simp [h0, h0']
def sigB (D : List RDecl) (ps : List Int) (r : Int) : Bool := decide (ps.length ≤ 3) && (ps.all (tyB D) && tyB D r)
theorem spec_sigs_L1_eq {p : RProgram} (hf : p.funcs.length ≤ 1048576) (hp : ∀ f ∈ p.funcs, f.params.length ≤ 1048576) {N : Nat} (hN : 2000000 ≤ N) : spec_validSigs_L1 N p N 0 = some (if (p.funcs.all fun f => sigB p.decls f.params f.result) = true then .inr () else .inl false) := by
 rw [← allAt_all _ 0]
 refine all_loop (l := p.funcs) (spec_validSigs_L1 N p) (fun _ f => sigB p.decls f.params f.result) (fun n => by rw [spec_validSigs_L1, if_neg (by simp [len_def])]) (fun n i f hi => ?_) (by omega)
 have hi' := (List.getElem?_eq_some_iff.1 hi).1
 have hpf := hp f (List.mem_of_getElem? hi)
 rw [spec_validSigs_L1, if_pos (by simp [len_def]; omega), get_lt hi]
 simp only [Option.bind_some]
 rw [spec_allTypes_eq hpf (by omega), inRange_ty, w_id (by omega) (by omega), show ((i : Int) + 1) = ((i + 1 : Nat) : Int) by omega]
 unfold sigB
 simp only [len_def]
 by_cases h3 : f.params.length ≤ 3
 ·have e3 : ¬ (3 : Int) < (f.params.length : Int) := by omega
  generalize f.params.all (tyB p.decls) = z
  cases z <;> cases tyB p.decls f.result <;> simp [h3, e3]
 ·have e3 : (3 : Int) < (f.params.length : Int) := by omega
  simp [h3, e3]
theorem impl_sigs_L1_eq {D : List RDecl} {l : List RSignature} (hf : l.length ≤ 1048576) (hp : ∀ f ∈ l, f.params.length ≤ 1048576 ∧ f.lent.length ≤ 1048576) {N : Nat} (hN : 2000000 ≤ N) : impl_validSigs_L1 N D l N 0 = some (if (l.all fun f => sigB D f.params f.result && allAt (lentB f.params f.lent) 0 f.lent) = true then .inr () else .inl false) := by
 rw [← allAt_all _ 0]
 refine all_loop (l := l) (impl_validSigs_L1 N D l) (fun _ f => sigB D f.params f.result && allAt (lentB f.params f.lent) 0 f.lent) (fun n => by rw [impl_validSigs_L1, if_neg (by simp [len_def])]) (fun n i f hi => ?_) (by omega)
 have hi' := (List.getElem?_eq_some_iff.1 hi).1
 have hpf := hp f (List.mem_of_getElem? hi)
 rw [impl_validSigs_L1, if_pos (by simp [len_def]; omega), get_lt hi]
 simp only [Option.bind_some]
 rw [impl_allTypes_eq hpf.1 (by omega), impl_isType_eq, impl_lent_eq hpf.1 hpf.2 hN, cont_all, w_id (by omega) (by omega), show ((i : Int) + 1) = ((i + 1 : Nat) : Int) by omega]
 unfold sigB
 simp only [len_def]
 generalize allAt (lentB f.params f.lent) 0 f.lent = y
 by_cases h3 : f.params.length ≤ 3
 ·have e3 : ¬ (3 : Int) < (f.params.length : Int) := by omega
  generalize f.params.all (tyB D) = z
  cases z <;> cases tyB D f.result <;> cases y <;> simp [h3, e3]
 ·have e3 : (3 : Int) < (f.params.length : Int) := by omega
  simp [h3, e3]
end RC
namespace RC
open Go
def first0 (D : List (List Int × Int)) : Bool := match D with | [] => false | (ps, r) :: _ => decide (ps.length = 0) && decide (r = 0)
def sigsB (D : List RDecl) (l : List (List Int × Int)) : Bool := typesB D && ((decide (1 ≤ l.length) && decide (l.length ≤ 4)) && (l.all (fun s => sigB D s.1 s.2) && first0 l))
theorem spec_validSigs_eq {p : RProgram} (hD : DSmall p.decls) (hf : p.funcs.length ≤ 1048576) (hp : ∀ f ∈ p.funcs, f.params.length ≤ 1048576) {N : Nat} (hN : 2000000 ≤ N) : spec_validSigs N p = some (sigsB p.decls (p.funcs.map fun f => (f.params, f.result))) := by
 unfold spec_validSigs sigsB
 rw [spec_validTypes_eq hD hN, spec_sigs_L1_eq hf hp hN, cont_all, inRange_eq]
 simp only [Option.bind_some, List.length_map, List.all_map, Function.comp_def]
 cases typesB p.decls with
 | false => simp
 | true =>
  cases hl : p.funcs with
  | nil => simp [len_def]
  | cons f r =>
   have e0 : Sh.get (f :: r) 0 = some f := rfl
   rw [e0]
   generalize (f :: r).all (fun f => sigB p.decls f.params f.result) = z
   simp only [List.map_cons, first0]
   have q1 : decide ((1 : Int) ≤ Sh.len (f :: r)) = true := decide_eq_true (by rw [len_def, List.length_cons]; omega)
   have q2 : decide (1 ≤ (f :: r).length) = true := by simp
   have q3 : decide (Sh.len (f :: r) ≤ 4) = decide ((f :: r).length ≤ 4) := decide_eq_decide.2 (by rw [len_def]; omega)
   have q4 : decide (Sh.len f.params = 0) = decide (f.params.length = 0) := decide_eq_decide.2 (by rw [len_def]; omega)
   simp only [q1, q2, q3, q4, Option.bind_some]
   cases decide ((f :: r).length ≤ 4) <;> cases z <;> by_cases a1 : f.params.length = 0 <;> by_cases a2 : f.result = 0 <;> simp [a1, a2]
theorem impl_validSigs_eq {D : List RDecl} {l : List RSignature} (hD : DSmall D) (hf : l.length ≤ 1048576) (hp : ∀ f ∈ l, f.params.length ≤ 1048576 ∧ f.lent.length ≤ 1048576) {N : Nat} (hN : 2000000 ≤ N) :
  impl_validSigs N D l = some (sigsB D (l.map fun f => (f.params, f.result)) && l.all (fun f => allAt (lentB f.params f.lent) 0 f.lent)) := by
 unfold impl_validSigs sigsB
 rw [impl_ValidTypes_eq hD hN, impl_sigs_L1_eq hf hp hN, cont_all]
 have hsplit : (l.all fun f => sigB D f.params f.result && allAt (lentB f.params f.lent) 0 f.lent) = ((l.all fun f => sigB D f.params f.result) && (l.all fun f => allAt (lentB f.params f.lent) 0 f.lent)) := by
  clear hf hp
  induction l with
  | nil => rfl
  | cons f r ih =>
   simp only [List.all_cons, ih]
   cases sigB D f.params f.result <;> cases allAt (lentB f.params f.lent) 0 f.lent <;> simp
 rw [hsplit]
 simp only [Option.bind_some, List.length_map, List.all_map, Function.comp_def]
 cases typesB D with
 | false => simp
 | true =>
  cases hl : l with
  | nil => simp [len_def]
  | cons f r =>
   have e0 : Sh.get (f :: r) 0 = some f := rfl
   rw [e0]
   generalize (f :: r).all (fun f => sigB D f.params f.result) = z
   generalize (f :: r).all (fun f => allAt (lentB f.params f.lent) 0 f.lent) = y
   simp only [List.map_cons, first0]
   have q1 : decide (Sh.len (f :: r) < 1) = false := decide_eq_false (by rw [len_def, List.length_cons]; omega)
   have q2 : decide (1 ≤ (f :: r).length) = true := by simp
   have q3 : decide ((4 : Int) < Sh.len (f :: r)) = !decide ((f :: r).length ≤ 4) := by rw [← decide_not]; exact decide_eq_decide.2 (by rw [len_def]; omega)
   have q4 : decide ((0 : Int) < Sh.len f.params) = !decide (f.params.length = 0) := by rw [← decide_not]; exact decide_eq_decide.2 (by rw [len_def]; omega)
   simp only [q1, q2, q3, q4, Option.bind_some]
   cases decide ((f :: r).length ≤ 4) <;> cases z <;> cases y <;> by_cases a1 : f.params.length = 0 <;> by_cases a2 : f.result = 0 <;> simp [a1, a2]
end RC



namespace RC
open Go
def nc (D : List RDecl) : Nat := (D.map (·.cons.length)).sum
theorem nc_take {D : List RDecl} {i : Nat} {d : RDecl} (h : D[i]? = some d) : nc (D.take (i + 1)) = nc (D.take i) + d.cons.length := by
 rw [take_snoc h]; simp [nc]
theorem nc_drop {D : List RDecl} {i : Nat} {d : RDecl} (h : D[i]? = some d) : nc (D.drop i) = d.cons.length + nc (D.drop (i + 1)) := by
 rw [drop_cons h]; simp [nc]
theorem nc_split (D : List RDecl) (i : Nat) : nc D = nc (D.take i) + nc (D.drop i) := by
 unfold nc
 rw [← List.sum_append_nat, ← List.map_append, List.take_append_drop]
theorem spec_firstCon_eq {D : List RDecl} (hD : D.length ≤ 1048576) (hn : nc D ≤ 1048576) {i : Nat} (hi : i ≤ D.length) {N : Nat} (hN : 2000000 ≤ N) : spec_firstCon N D i = some (nc (D.take i) : Int) := by
 unfold spec_firstCon
 have key : ∀ {N j : Nat}, j ≤ i → i - j < N → spec_firstCon_L1 D i N (nc (D.take j)) j = some (nc (D.take i) : Int) := by
  intro N j hj hN
  refine loop_ind i (fun N j => spec_firstCon_L1 D i N (nc (D.take j)) j = some (nc (D.take i) : Int)) ?_ ?_ hj hN
  ·intro n; rw [spec_firstCon_L1, if_neg (by simp)]
  ·intro n j hj ih
   obtain ⟨d, hd, _⟩ := at_lt (l := D) (i := j) (by omega)
   have hs := nc_split D (j + 1)
   have ht := nc_take hd
   rw [spec_firstCon_L1, if_pos (by simp; omega), get_lt hd]
   simp only [Option.bind_some]
   rw [len_def, w_id (n := (j : Int) + 1) (by omega) (by omega), w_id (by omega) (by omega), show ((nc (D.take j) : Int) + (d.cons.length : Int)) = ((nc (D.take (j + 1)) : Nat) : Int) by omega, show ((j : Int) + 1) = ((j + 1 : Nat) : Int) by omega]
   exact ih
 have := key (Nat.zero_le _) (by omega : i - 0 < N)
 rw [show (((nc (D.take 0) : Nat) : Int)) = 0 from rfl, show (((0 : Nat) : Int)) = 0 from rfl] at this
 rw [this]; rfl
theorem impl_conCount_eq {D : List RDecl} (hD : D.length ≤ 1048576) (hn : nc D ≤ 1048576) {N : Nat} (hN : 2000000 ≤ N) : impl_conCount N D = some (nc D : Int) := by
 unfold impl_conCount
 have key : ∀ {N j : Nat}, j ≤ D.length → D.length - j < N → impl_conCount_L1 D N (nc (D.take j)) j = some (nc D : Int) := by
  intro N j hj hN
  refine loop_ind D.length (fun N j => impl_conCount_L1 D N (nc (D.take j)) j = some (nc D : Int)) ?_ ?_ hj hN
  ·intro n; rw [impl_conCount_L1, if_neg (by simp [len_def]), List.take_length]
  ·intro n j hj ih
   obtain ⟨d, hd, _⟩ := at_lt hj
   have hs := nc_split D (j + 1)
   have ht := nc_take hd
   rw [impl_conCount_L1, if_pos (by simp [len_def]; omega), get_lt hd]
   simp only [Option.bind_some]
   rw [len_def, w_id (n := (j : Int) + 1) (by omega) (by omega), w_id (by omega) (by omega), show ((nc (D.take j) : Int) + (d.cons.length : Int)) = ((nc (D.take (j + 1)) : Nat) : Int) by omega, show ((j : Int) + 1) = ((j + 1 : Nat) : Int) by omega]
   exact ih
 have := key (Nat.zero_le _) (by omega : D.length - 0 < N)
 rw [show (((nc (D.take 0) : Nat) : Int)) = 0 from rfl, show (((0 : Nat) : Int)) = 0 from rfl] at this
 rw [this]; rfl
def conF : List RDecl → Nat → Nat → Option (Nat × RCon)
 | [], _, _ => none
 | d :: r, k, c => match d.cons[c]? with
  | some x => some (k + 1, x)
  | none => conF r (k + 1) (c - d.cons.length)
theorem impl_conAt_eq {D : List RDecl} (hD : D.length ≤ 1048576) (hn : nc D ≤ 1048576) {c : Nat} (hc : c < nc D) {N : Nat} (hN : 2000000 ≤ N) : ∃ t x, conF D 0 c = some (t, x) ∧ impl_conAt N D c = some ((t : Int), x) := by
 have key : ∀ (m j N c : Nat), D.length - j = m → j ≤ D.length → m < N → c < nc (D.drop j) → ∃ t x, conF (D.drop j) j c = some (t, x) ∧ impl_conAt_L1 D N c j = some (.inl ((t : Int), x)) := by
  intro m
  induction m with
  | zero =>
   intro j N c h1 h2 _ h3
   rw [List.drop_eq_nil_of_le (by omega)] at h3; simp [nc] at h3
  | succ m ih =>
   intro j N c h1 h2 h3 h4
   obtain ⟨N, rfl⟩ : ∃ n, N = n + 1 := ⟨N - 1, by omega⟩
   obtain ⟨d, hd, _⟩ := at_lt (l := D) (i := j) (by omega)
   have hs := nc_split D j
   rw [nc_drop hd] at h4 hs
   rw [drop_cons hd]
   unfold conF
   rw [impl_conAt_L1, if_pos (by simp [len_def]; omega), get_lt hd]
   simp only [Option.bind_some]
   rw [if_pos (by simp), len_def, w_id (n := (j : Int) + 1) (by omega) (by omega), w_id (by omega) (by omega)]
   cases hx : d.cons[c]? with
   | some x =>
    have hlt := (List.getElem?_eq_some_iff.1 hx).1
    refine ⟨j + 1, x, rfl, ?_⟩
    have e : ((c : Int) < (d.cons.length : Int)) := by omega
    simp [e, get_lt hx]
   | none =>
    have hle : d.cons.length ≤ c := by simpa using hx
    obtain ⟨t, x, g1, g2⟩ := ih (j + 1) N (c - d.cons.length) (by omega) (by omega) (by omega) (by omega)
    refine ⟨t, x, g1, ?_⟩
    have e : ¬ ((c : Int) < (d.cons.length : Int)) := by omega
    rw [← g2, show ((c : Int) - (d.cons.length : Int)) = ((c - d.cons.length : Nat) : Int) by omega, show ((j : Int) + 1) = ((j + 1 : Nat) : Int) by omega]
    simp [e]
 obtain ⟨t, x, g1, g2⟩ := key D.length 0 N c (by omega) (by omega) (by omega) (by simpa using hc)
 refine ⟨t, x, by simpa using g1, ?_⟩
 unfold impl_conAt
 rw [show (((0 : Nat) : Int)) = 0 from rfl] at g2
 rw [g2]; rfl
end RC
namespace RC
open Go
theorem spec_conType_in {D : List RDecl} (hD : D.length ≤ 1048576) (hn : nc D ≤ 1048576) {c : Nat} (hc : c < nc D) {N : Nat} (hN : 2000000 ≤ N) : ∃ t x, conF D 0 c = some (t, x) ∧ spec_conType N D c = some (t : Int) := by
 have key : ∀ (m j M c : Nat), D.length - j = m → j ≤ D.length → m < M → c < nc (D.drop j) → ∃ t x, conF (D.drop j) j c = some (t, x) ∧ spec_conType_L1 N D ((nc (D.take j) + c : Nat) : Int) M j = some (.inl (t : Int)) := by
  intro m
  induction m with
  | zero =>
   intro j M c h1 h2 _ h3
   rw [List.drop_eq_nil_of_le (by omega)] at h3; simp [nc] at h3
  | succ m ih =>
   intro j M c h1 h2 h3 h4
   obtain ⟨M, rfl⟩ : ∃ n, M = n + 1 := ⟨M - 1, by omega⟩
   obtain ⟨d, hd, _⟩ := at_lt (l := D) (i := j) (by omega)
   have hs := nc_split D j
   rw [nc_drop hd] at h4 hs
   have ht := nc_take hd
   rw [drop_cons hd]
   unfold conF
   rw [spec_conType_L1, if_pos (by simp [len_def]; omega), spec_firstCon_eq hD hn (by omega) hN, get_lt hd]
   simp only [Option.bind_some]
   rw [len_def, w_id (n := (j : Int) + 1) (by omega) (by omega), w_id (n := (nc (D.take j) : Int) + (d.cons.length : Int)) (by omega) (by omega), w_id (by omega) (by omega), inRange_eq]
   simp only [Option.bind_some]
   cases hx : d.cons[c]? with
   | some x =>
    have hlt := (List.getElem?_eq_some_iff.1 hx).1
    refine ⟨j + 1, x, rfl, ?_⟩
    rw [if_pos (by simp; omega)]
    rfl
   | none =>
    have hle : d.cons.length ≤ c := by simpa using hx
    obtain ⟨t, x, g1, g2⟩ := ih (j + 1) M (c - d.cons.length) (by omega) (by omega) (by omega) (by omega)
    refine ⟨t, x, g1, ?_⟩
    rw [if_neg (by simp; omega), ← g2, show nc (D.take j) + c = nc (D.take (j + 1)) + (c - d.cons.length) by omega]
    rfl
 obtain ⟨t, x, g1, g2⟩ := key D.length 0 N c (by omega) (by omega) (by omega) (by simpa using hc)
 refine ⟨t, x, by simpa using g1, ?_⟩
 unfold spec_conType
 rw [show nc (D.take 0) + c = c by simp [nc], show (((0 : Nat) : Int)) = 0 from rfl] at g2
 rw [g2]; rfl
theorem spec_conType_out {D : List RDecl} (hD : D.length ≤ 1048576) (hn : nc D ≤ 1048576) {c : Int} (hc : c < 0 ∨ (nc D : Int) ≤ c) {N : Nat} (hN : 2000000 ≤ N) : spec_conType N D c = some (-1) := by
 unfold spec_conType
 have key : ∀ {M j : Nat}, j ≤ D.length → D.length - j < M → spec_conType_L1 N D c M j = some (.inr ()) := by
  intro M j hj hM
  refine loop_ind D.length (fun M j => spec_conType_L1 N D c M j = some (.inr ())) ?_ ?_ hj hM
  ·intro n; rw [spec_conType_L1, if_neg (by simp [len_def])]
  ·intro n j hj ih
   obtain ⟨d, hd, _⟩ := at_lt hj
   have hs := nc_split D (j + 1)
   have ht := nc_take hd
   rw [spec_conType_L1, if_pos (by simp [len_def]; omega), spec_firstCon_eq hD hn (by omega) hN, get_lt hd]
   simp only [Option.bind_some]
   rw [len_def, w_id (n := (j : Int) + 1) (by omega) (by omega), w_id (n := (nc (D.take j) : Int) + (d.cons.length : Int)) (by omega) (by omega), w_id (by omega) (by omega), inRange_eq]
   simp only [Option.bind_some]
   rw [if_neg (by simp; omega)]
   exact ih
 have := key (Nat.zero_le _) (by omega : D.length - 0 < N)
 rw [show (((0 : Nat) : Int)) = 0 from rfl] at this
 rw [this]; rfl
end RC
namespace RC
open Go
theorem conF_spec {D : List RDecl} : ∀ (m j c t : Nat) (x : RCon), D.length - j = m → j ≤ D.length → conF (D.drop j) j c = some (t, x) → ∃ d, 1 ≤ t ∧ D[t - 1]? = some d ∧ nc (D.take (t - 1)) ≤ nc (D.take j) + c ∧ d.cons[nc (D.take j) + c - nc (D.take (t - 1))]? = some x := by
 intro m
 induction m with
 | zero =>
  intro j c t x h1 h2 h
  rw [List.drop_eq_nil_of_le (by omega)] at h; simp [conF] at h
 | succ m ih =>
  intro j c t x h1 h2 h
  obtain ⟨d, hd, _⟩ := at_lt (l := D) (i := j) (by omega)
  have ht := nc_take hd
  rw [drop_cons hd] at h
  unfold conF at h
  cases hx : d.cons[c]? with
  | some y =>
   rw [hx] at h
   simp only [Option.some.injEq, Prod.mk.injEq] at h
   obtain ⟨rfl, rfl⟩ := h
   exact ⟨d, by omega, by simpa using hd, by simp, by simpa using hx⟩
  | none =>
   rw [hx] at h
   have hle : d.cons.length ≤ c := by simpa using hx
   obtain ⟨e, g1, g2, g3, g4⟩ := ih (j + 1) (c - d.cons.length) t x (by omega) (by omega) h
   rw [show nc (D.take (j + 1)) + (c - d.cons.length) = nc (D.take j) + c by omega] at g3 g4
   exact ⟨e, g1, g2, g3, g4⟩
theorem spec_conFields_eq {D : List RDecl} (hD : D.length ≤ 1048576) (hn : nc D ≤ 1048576) {c : Nat} (hc : c < nc D) {N : Nat} (hN : 2000000 ≤ N) : ∃ t x, conF D 0 c = some (t, x) ∧ spec_conFields N D c = some x.fields := by
 obtain ⟨t, x, e1, e2⟩ := spec_conType_in hD hn hc hN
 obtain ⟨d, g1, g2, g3, g4⟩ := conF_spec (D := D) D.length 0 c t x (by omega) (by omega) (by simpa using e1)
 have hlt := (List.getElem?_eq_some_iff.1 g2).1
 have hs := nc_split D (t - 1)
 rw [show nc (D.take 0) + c = c by simp [nc]] at g3 g4
 refine ⟨t, x, e1, ?_⟩
 unfold spec_conFields
 rw [e2]
 simp only [Option.bind_some]
 rw [if_neg (by simp; omega), w_id (n := (t : Int) - 1) (by omega) (by omega), show ((t : Int) - 1) = ((t - 1 : Nat) : Int) by omega, get_lt g2, spec_firstCon_eq hD hn (by omega) hN]
 simp only [Option.bind_some]
 rw [w_id (by omega) (by omega), show ((c : Int) - (nc (D.take (t - 1)) : Int)) = ((c - nc (D.take (t - 1)) : Nat) : Int) by omega, get_lt g4]
 rfl
theorem impl_fieldsOf_eq {D : List RDecl} (hD : D.length ≤ 1048576) (hn : nc D ≤ 1048576) {c : Nat} (hc : c < nc D) {N : Nat} (hN : 2000000 ≤ N) : ∃ t x, conF D 0 c = some (t, x) ∧ impl_fieldsOf N D c = some x.fields := by
 obtain ⟨t, x, e1, e2⟩ := impl_conAt_eq hD hn hc hN
 exact ⟨t, x, e1, by unfold impl_fieldsOf; rw [e2]; rfl⟩
end RC
namespace RC
open Go
def consL (D : List RDecl) (t : Int) : List Int :=
 if 1 ≤ t ∧ t ≤ (D.length : Int) then (List.range ((D[(t - 1).toNat]?).elim 0 (·.cons.length))).map fun (i : Nat) => (nc (D.take (t - 1).toNat) : Int) + (i : Int) else []
theorem range_snoc {f : Nat → Int} {i : Nat} : (List.range (i + 1)).map f = (List.range i).map f ++ [f i] := by rw [List.range_succ, List.map_append]; rfl
theorem spec_consOf_eq {D : List RDecl} (hD : D.length ≤ 1048576) (hn : nc D ≤ 1048576) {t : Int} {N : Nat} (hN : 2000000 ≤ N) : spec_consOf N D t = some (consL D t) := by
 unfold spec_consOf consL
 rw [inRange_eq, len_def]
 simp only [Option.bind_some]
 by_cases h : 1 ≤ t ∧ t ≤ (D.length : Int)
 ·obtain ⟨a, ha⟩ : ∃ a : Nat, t = (a : Int) + 1 := ⟨(t - 1).toNat, by omega⟩
  subst ha
  obtain ⟨d, hd, _⟩ := at_lt (l := D) (i := a) (by omega)
  have hs := nc_split D (a + 1)
  have ht := nc_take hd
  rw [if_neg (by simp; omega), if_pos h, show (((a : Int) + 1) - 1).toNat = a by omega, hd]
  simp only [Option.elim_some]
  have key : ∀ {M i : Nat}, i ≤ d.cons.length → d.cons.length - i < M → spec_consOf_L1 N D ((a : Int) + 1) M i ((List.range i).map fun (i : Nat) => (nc (D.take a) : Int) + (i : Int)) = some ((List.range d.cons.length).map fun (i : Nat) => (nc (D.take a) : Int) + (i : Int)) := by
   intro M i hi hM
   refine loop_ind d.cons.length (fun M i => spec_consOf_L1 N D ((a : Int) + 1) M i ((List.range i).map fun (i : Nat) => (nc (D.take a) : Int) + (i : Int)) = some ((List.range d.cons.length).map fun (i : Nat) => (nc (D.take a) : Int) + (i : Int))) ?_ ?_ hi hM
   ·intro n
    rw [spec_consOf_L1, w_id (by omega) (by omega), show ((a : Int) + 1 - 1) = ((a : Nat) : Int) by omega, get_lt hd]
    simp only [Option.bind_some]
    rw [if_neg (by simp [len_def])]
   ·intro n i hi ih
    rw [spec_consOf_L1, w_id (n := (a : Int) + 1 - 1) (by omega) (by omega), show ((a : Int) + 1 - 1) = ((a : Nat) : Int) by omega, get_lt hd]
    simp only [Option.bind_some]
    rw [if_pos (by simp [len_def]; omega), spec_firstCon_eq hD hn (by omega) hN]
    simp only [Option.bind_some]
    rw [app_ok _ _ _ (by simp; omega) (by simp; omega), w_id (n := (i : Int) + 1) (by omega) (by omega), w_id (by omega) (by omega), show ((i : Int) + 1) = ((i + 1 : Nat) : Int) by omega]
    simp only [Option.bind_some]
    rw [← ih, range_snoc]
  have := key (Nat.zero_le _) (by omega : d.cons.length - 0 < N)
  rw [show (((0 : Nat) : Int)) = 0 from rfl, List.range_zero, List.map_nil] at this
  rw [this]; rfl
 ·rw [if_pos (by simp; omega), if_neg h]
theorem impl_consOf_eq {D : List RDecl} (hD : D.length ≤ 1048576) (hn : nc D ≤ 1048576) {t : Int} {N : Nat} (hN : 2000000 ≤ N) : impl_consOf N D t = some (consL D t) := by
 unfold impl_consOf consL
 rw [len_def]
 by_cases h : 1 ≤ t ∧ t ≤ (D.length : Int)
 ·obtain ⟨a, ha⟩ : ∃ a : Nat, t = (a : Int) + 1 := ⟨(t - 1).toNat, by omega⟩
  subst ha
  obtain ⟨d, hd, _⟩ := at_lt (l := D) (i := a) (by omega)
  have hs := nc_split D (a + 1)
  have hs0 := nc_split D a
  have ht := nc_take hd
  have e1 : ¬ ((a : Int) + 1 < 1) := by omega
  have e2 : ¬ ((D.length : Int) < (a : Int) + 1) := by omega
  rw [if_pos h, show (((a : Int) + 1) - 1).toNat = a by omega, hd, w_id (by omega) (by omega), show ((a : Int) + 1 - 1) = ((a : Nat) : Int) by omega, sl_take (by omega) (by omega), get_lt hd]
  simp only [Option.elim_some, e1, e2, decide_false, Bool.false_eq_true, if_false, Option.bind_some]
  rw [impl_conCount_eq (by simp; omega) (by omega) hN]
  simp only [Option.bind_some]
  have key : ∀ {M i : Nat}, i ≤ d.cons.length → d.cons.length - i < M → impl_consOf_L1 d (nc (D.take a) : Int) M i ((List.range i).map fun (i : Nat) => (nc (D.take a) : Int) + (i : Int)) = some ((List.range d.cons.length).map fun (i : Nat) => (nc (D.take a) : Int) + (i : Int)) := by
   intro M i hi hM
   refine loop_ind d.cons.length (fun M i => impl_consOf_L1 d (nc (D.take a) : Int) M i ((List.range i).map fun (i : Nat) => (nc (D.take a) : Int) + (i : Int)) = some ((List.range d.cons.length).map fun (i : Nat) => (nc (D.take a) : Int) + (i : Int))) ?_ ?_ hi hM
   ·intro n; rw [impl_consOf_L1, if_neg (by simp [len_def])]
   ·intro n i hi ih
    rw [impl_consOf_L1, if_pos (by simp [len_def]; omega)]
    rw [app_ok _ _ _ (by simp; omega) (by simp; omega), w_id (n := (i : Int) + 1) (by omega) (by omega), w_id (by omega) (by omega), show ((i : Int) + 1) = ((i + 1 : Nat) : Int) by omega]
    simp only [Option.bind_some]
    rw [← ih, range_snoc]
  have := key (Nat.zero_le _) (by omega : d.cons.length - 0 < N)
  rw [show (((0 : Nat) : Int)) = 0 from rfl, List.range_zero, List.map_nil] at this
  rw [this]; rfl
 ·rw [if_neg h]
  by_cases e1 : t < 1
  ·simp [e1]
  ·have e2 : (D.length : Int) < t := by omega
   simp [e1, e2]
end RC



namespace RC
open Go
theorem sz_list {α : Type} {l : List α} (f : α → Nat) (L : Nat → Int → Int → Option (Int ⊕ Int)) (h0 : ∀ n left, L (n + 1) left (l.length : Int) = some (.inr left))
  (hs : ∀ n (i : Nat) x left, l[i]? = some x → 0 ≤ left → left ≤ 1048576 → L (n + 1) left (i : Int) = if left - (f x : Int) < 0 then some (.inl (-1)) else L n (left - (f x : Int)) ((i + 1 : Nat) : Int))
  {N : Nat} (hN : l.length < N) {left : Int} (hl0 : 0 ≤ left) (hl1 : left ≤ 1048576) : L N left 0 = some (if left - ((l.map f).sum : Nat) < 0 then .inl (-1) else .inr (left - ((l.map f).sum : Nat))) := by
 have key : ∀ {N i : Nat}, i ≤ l.length → l.length - i < N → ∀ left : Int, 0 ≤ left → left ≤ 1048576 → L N left (i : Int) = some (if left - (((l.drop i).map f).sum : Nat) < 0 then .inl (-1) else .inr (left - (((l.drop i).map f).sum : Nat))) := by
  intro N i hi hN
  refine loop_ind l.length (fun N i => ∀ left : Int, 0 ≤ left → left ≤ 1048576 → L N left (i : Int) = some (if left - (((l.drop i).map f).sum : Nat) < 0 then .inl (-1) else .inr (left - (((l.drop i).map f).sum : Nat)))) ?_ ?_ hi hN
  ·intro n left a b
   rw [h0, List.drop_length]
   simp
   omega
  ·intro n i hi ih left a b
   obtain ⟨x, hx, _⟩ := at_lt hi
   rw [hs n i x left hx a b, drop_cons hx, List.map_cons, List.sum_cons]
   by_cases h : left - (f x : Int) < 0
   ·rw [if_pos h, if_pos (by omega)]
   ·rw [if_neg h, ih (left - (f x : Int)) (by omega) (by omega)]
    rw [show left - ((f x + (List.map f (l.drop (i + 1))).sum : Nat) : Int) = left - (f x : Int) - ((List.map f (l.drop (i + 1))).sum : Nat) by omega]
 have := key (Nat.zero_le _) (by omega : l.length - 0 < N) left hl0 hl1
 simpa using this
theorem to_list {α : Type} {l : List α} (L : Nat → Int → List α → Option (List α)) (h0 : ∀ n m, L (n + 1) (l.length : Int) m = some m)
  (hs : ∀ n (i : Nat) x m, l[i]? = some x → m.length = l.length → L (n + 1) (i : Int) m = L n ((i + 1 : Nat) : Int) (m.set i x)) {N : Nat} (hN : l.length < N) {m : List α} (hm : m.length = l.length) : L N 0 m = some l := by
 have key : ∀ {N i : Nat}, i ≤ l.length → l.length - i < N → ∀ m : List α, m.length = l.length → m.take i = l.take i → L N (i : Int) m = some l := by
  intro N i hi hN
  refine loop_ind l.length (fun N i => ∀ m : List α, m.length = l.length → m.take i = l.take i → L N (i : Int) m = some l) ?_ ?_ hi hN
  ·intro n m a b
   rw [h0]
   rw [List.take_length, ← a, List.take_length] at b
   rw [b]
  ·intro n i hi ih m a b
   obtain ⟨x, hx, _⟩ := at_lt hi
   rw [hs n i x m hx a]
   refine ih (m.set i x) (by simp [a]) ?_
   have hi' : (m.set i x)[i]? = some x := by rw [List.getElem?_set_self (by omega)]
   rw [take_snoc hi', take_snoc hx, ← b, List.take_set_of_le (Nat.le_refl _)]
 exact key (Nat.zero_le _) (by omega : l.length - 0 < N) m hm rfl
end RC



namespace RC
open Go
def lft (left : Int) (s : Nat) : Int := if left - s < 0 then -1 else left - s
theorem lft_neg {left : Int} {s : Nat} (h : left - s < 0) : lft left s = -1 := if_pos h
theorem lft_pos {left : Int} {s : Nat} (h : ¬ left - s < 0) : lft left s = left - s := if_neg h
def cz (c : RCon) : Nat := c.fields.length
def dz (d : RDecl) : Nat := d.cons.length + (d.cons.map cz).sum
theorem szCon_eq {c : RCon} (hc : RConIn c) {left : Int} (h0 : 0 ≤ left) (h1 : left ≤ 1048576) : laws_szCon c left = some (lft left (cz c)) := by
 unfold laws_szCon
 rw [szIntS_eq h0 h1 hc.fields.2]
 unfold lft cz
 by_cases h : left - (c.fields.length : Int) < 0
 ·rw [if_pos h]; rfl
 ·rw [if_neg h]; simp [h]
theorem szConS_eq {l : List RCon} (hl : ListIn RConIn l) {left : Int} (h0 : 0 ≤ left) (h1 : left ≤ 1048576) {N : Nat} (hN : 2000000 ≤ N) : laws_szConS N l left = some (lft left (l.length + (l.map cz).sum)) := by
 unfold laws_szConS
 have hlen := hl.2
 rw [len_def, w_id (by omega) (by omega)]
 by_cases h : left - (l.length : Int) < 0
 ·rw [if_pos (by simpa using h), lft_neg (by omega)]
 ·rw [if_neg (by simpa using h), sz_list (l := l) cz (laws_szConS_L1 l) (fun n left => by rw [laws_szConS_L1, if_neg (by simp [len_def])]) (fun n i x left hx a b => ?_) (by omega) (by omega) (by omega)]
  ·by_cases g : left - (l.length : Int) - ((l.map cz).sum : Nat) < 0
   ·rw [if_pos g, lft_neg (by omega)]; rfl
   ·rw [if_neg g, lft_pos (by omega)]
    show some _ = some _
    congr 1; omega
  ·have hi := (List.getElem?_eq_some_iff.1 hx).1
   rw [laws_szConS_L1, if_pos (by simp [len_def]; omega), get_lt hx]
   simp only [Option.bind_some]
   rw [szCon_eq (hl.1 x (List.mem_of_getElem? hx)) a b, w_id (by omega) (by omega), show ((i : Int) + 1) = ((i + 1 : Nat) : Int) by omega]
   simp only [Option.bind_some]
   by_cases g : left - (cz x : Int) < 0
   ·rw [if_pos g, lft_neg g]; rfl
   ·rw [if_neg g, lft_pos g, if_neg (by simpa using g)]
end RC
namespace RC
open Go
theorem szDecl_eq {d : RDecl} (hd : RDeclIn d) {left : Int} (h0 : 0 ≤ left) (h1 : left ≤ 1048576) {N : Nat} (hN : 2000000 ≤ N) : laws_szDecl N d left = some (lft left (dz d)) := by
 unfold laws_szDecl
 rw [szConS_eq hd.cons h0 h1 hN]
 simp only [Option.bind_some]
 by_cases a : left - ((d.cons.length + (d.cons.map cz).sum : Nat) : Int) < 0
 ·rw [lft_neg a, lft_neg (by unfold dz; omega)]; rfl
 ·rw [lft_pos a, if_neg (by simpa using a), lft_pos (by unfold dz; omega)]; rfl
theorem szDeclS_eq {l : List RDecl} (hl : ListIn RDeclIn l) {left : Int} (h0 : 0 ≤ left) (h1 : left ≤ 1048576) {N : Nat} (hN : 2000000 ≤ N) : laws_szDeclS N l left = some (lft left (l.length + (l.map dz).sum)) := by
 unfold laws_szDeclS
 have hlen := hl.2
 rw [len_def, w_id (by omega) (by omega)]
 by_cases h : left - (l.length : Int) < 0
 ·rw [if_pos (by simpa using h), lft_neg (by omega)]
 ·rw [if_neg (by simpa using h), sz_list (l := l) dz (laws_szDeclS_L1 N l) (fun n left => by rw [laws_szDeclS_L1, if_neg (by simp [len_def])]) (fun n i x left hx a b => ?_) (by omega) (by omega) (by omega)]
  ·by_cases g : left - (l.length : Int) - ((l.map dz).sum : Nat) < 0
   ·rw [if_pos g, lft_neg (by omega)]; rfl
   ·rw [if_neg g, lft_pos (by omega)]
    show some _ = some _
    congr 1; omega
  ·have hi := (List.getElem?_eq_some_iff.1 hx).1
   rw [laws_szDeclS_L1, if_pos (by simp [len_def]; omega), get_lt hx]
   simp only [Option.bind_some]
   rw [szDecl_eq (hl.1 x (List.mem_of_getElem? hx)) a b hN, w_id (by omega) (by omega), show ((i : Int) + 1) = ((i + 1 : Nat) : Int) by omega]
   simp only [Option.bind_some]
   by_cases g : left - (dz x : Int) < 0
   ·rw [if_pos g, lft_neg g]; rfl
   ·rw [if_neg g, lft_pos g, if_neg (by simpa using g)]
end RC



namespace RC
open Go
end RC


namespace RC
open Go
end RC



namespace RC
open Go
section
variable {im : RImage} {p : RProc} {at_ : Nat} {i : RInstr} {N : Nat}
end
end RC



namespace RC
open Go
theorem mem_sum {α : Type} (f : α → Nat) {l : List α} {x : α} (h : x ∈ l) : f x ≤ (l.map f).sum := by
 induction l with
 | nil => cases h
 | cons y r ih =>
  rw [List.map_cons, List.sum_cons]
  rcases List.mem_cons.1 h with rfl | h
  ·omega
  ·have := ih h; omega
theorem toCon_eq {c : RCon} (h : cz c ≤ 1048576) {N : Nat} (hN : 2000000 ≤ N) : laws_toCon N c = some c := by
 unfold cz at h
 unfold laws_toCon; rw [toIntS_eq h hN]; rfl
theorem toConS_eq {l : List RCon} (hl : l.length + (l.map cz).sum ≤ 1048576) {N : Nat} (hN : 2000000 ≤ N) : laws_toConS N l = some l := by
 unfold laws_toConS
 rw [len_def, mk_ok _ _ _ (by omega) (by omega)]
 simp only [Option.bind_some]
 rw [to_list (l := l) (laws_toConS_L1 N l) (fun n m => by rw [laws_toConS_L1, if_neg (by simp [len_def])]) (fun n i x m hx hm => ?_) (by omega) (by simp)]
 ·rfl
 ·have hi := (List.getElem?_eq_some_iff.1 hx).1
  have hz := mem_sum cz (List.mem_of_getElem? hx)
  obtain ⟨y, hy, _⟩ := at_lt (l := m) (i := i) (by omega)
  rw [laws_toConS_L1, if_pos (by simp [len_def]; omega), get_lt hx]
  simp only [Option.bind_some]
  rw [toCon_eq (by omega) hN, get_lt hy]
  simp only [Option.bind_some]
  rw [put_nat, w_id (by omega) (by omega), show ((i : Int) + 1) = ((i + 1 : Nat) : Int) by omega]
theorem toDecl_eq {d : RDecl} (h : dz d ≤ 1048576) {N : Nat} (hN : 2000000 ≤ N) : laws_toDecl N d = some d := by
 unfold dz at h
 unfold laws_toDecl; rw [toConS_eq h hN]; rfl
theorem toDeclS_eq {l : List RDecl} (hl : l.length + (l.map dz).sum ≤ 1048576) {N : Nat} (hN : 2000000 ≤ N) : laws_toDeclS N l = some l := by
 unfold laws_toDeclS
 rw [len_def, mk_ok _ _ _ (by omega) (by omega)]
 simp only [Option.bind_some]
 rw [to_list (l := l) (laws_toDeclS_L1 N l) (fun n m => by rw [laws_toDeclS_L1, if_neg (by simp [len_def])]) (fun n i x m hx hm => ?_) (by omega) (by simp)]
 ·rfl
 ·have hi := (List.getElem?_eq_some_iff.1 hx).1
  have hz := mem_sum dz (List.mem_of_getElem? hx)
  obtain ⟨y, hy, _⟩ := at_lt (l := m) (i := i) (by omega)
  rw [laws_toDeclS_L1, if_pos (by simp [len_def]; omega), get_lt hx]
  simp only [Option.bind_some]
  rw [toDecl_eq (by omega) hN, get_lt hy]
  simp only [Option.bind_some]
  rw [put_nat, w_id (by omega) (by omega), show ((i : Int) + 1) = ((i + 1 : Nat) : Int) by omega]
end RC



namespace RC
open Go
theorem eqCon_eq {c : RCon} (h : cz c ≤ 1048576) {N : Nat} (hN : 2000000 ≤ N) : laws_eqCon N c c = some true := by
 unfold cz at h
 unfold laws_eqCon; rw [eqIntS_eq h hN]; rfl
theorem eqConS_eq {l : List RCon} (hl : l.length + (l.map cz).sum ≤ 1048576) {N : Nat} (hN : 2000000 ≤ N) : laws_eqConS N l l = some true := by
 unfold laws_eqConS
 have L := all_loop (l := l) (laws_eqConS_L1 N l l) (fun _ _ => true) (fun n => by rw [laws_eqConS_L1, if_neg (by simp [len_def])]) (fun n i x hx => ?_) (by omega : l.length < N)
 ·rw [allAt_all (p := fun _ => true)] at L
  simp [L, Sh.cont]
 ·have hi := (List.getElem?_eq_some_iff.1 hx).1
  have hz := mem_sum cz (List.mem_of_getElem? hx)
  rw [laws_eqConS_L1, if_pos (by simp [len_def]; omega), get_lt hx]
  simp only [Option.bind_some]
  rw [eqCon_eq (by omega) hN, w_id (by omega) (by omega), show ((i : Int) + 1) = ((i + 1 : Nat) : Int) by omega]
  rfl
theorem eqDecl_eq {d : RDecl} (h : dz d ≤ 1048576) {N : Nat} (hN : 2000000 ≤ N) : laws_eqDecl N d d = some true := by
 unfold dz at h
 unfold laws_eqDecl; rw [eqConS_eq h hN]; simp
theorem eqDeclS_eq {l : List RDecl} (hl : l.length + (l.map dz).sum ≤ 1048576) {N : Nat} (hN : 2000000 ≤ N) : laws_eqDeclS N l l = some true := by
 unfold laws_eqDeclS
 have L := all_loop (l := l) (laws_eqDeclS_L1 N l l) (fun _ _ => true) (fun n => by rw [laws_eqDeclS_L1, if_neg (by simp [len_def])]) (fun n i x hx => ?_) (by omega : l.length < N)
 ·rw [allAt_all (p := fun _ => true)] at L
  simp [L, Sh.cont]
 ·have hi := (List.getElem?_eq_some_iff.1 hx).1
  have hz := mem_sum dz (List.mem_of_getElem? hx)
  rw [laws_eqDeclS_L1, if_pos (by simp [len_def]; omega), get_lt hx]
  simp only [Option.bind_some]
  rw [eqDecl_eq (by omega) hN, w_id (by omega) (by omega), show ((i : Int) + 1) = ((i + 1 : Nat) : Int) by omega]
  rfl
end RC



namespace RC
open Go
end RC



namespace RC
open Go
end RC



namespace RC
open Go
theorem allAt_iff2 {α : Type} {g : Nat → α → Bool} : ∀ (l : List α) (k : Nat), allAt g k l = true ↔ ∀ (i : Nat) x, l[i]? = some x → g (k + i) x = true
 | [], _ => by simp [allAt]
 | x :: r, k => by
  rw [allAt, Bool.and_eq_true, allAt_iff2 r (k + 1)]
  constructor
  ·rintro ⟨h1, h2⟩ i y hy
   cases i with
   | zero => simp only [List.getElem?_cons_zero, Option.some.injEq] at hy; subst hy; exact h1
   | succ i => have := h2 i y hy; rw [show k + (i + 1) = k + 1 + i by omega]; exact this
  ·intro h
   exact ⟨h 0 x rfl, fun i y hy => by have := h (i + 1) y hy; rw [show k + (i + 1) = k + 1 + i by omega] at this; exact this⟩
theorem list_eq_all {a b : List Int} (h : a.length = b.length) : allAt (fun i x => decide (b[i]? = some x)) 0 a = decide (a = b) := by
 rw [Bool.eq_iff_iff, allAt_iff2, decide_eq_true_iff]
 constructor
 ·intro g
  refine List.ext_getElem? fun i => ?_
  by_cases hi : i < a.length
  ·obtain ⟨x, hx, _⟩ := at_lt hi
   have := g i x hx
   rw [decide_eq_true_iff, Nat.zero_add] at this
   rw [hx, this]
  ·rw [List.getElem?_eq_none (by omega), List.getElem?_eq_none (by omega)]
 ·rintro rfl i x hx
  rw [decide_eq_true_iff, Nat.zero_add, hx]
theorem Equal_eq {a b : List Int} (ha : a.length ≤ 1048576) {N : Nat} (hN : 2000000 ≤ N) : slices_Equal_int_int N a b = some (decide (a = b)) := by
 unfold slices_Equal_int_int
 by_cases h : a.length = b.length
 ·rw [if_neg (by simp [len_def, h]), all_loop (l := a) (slices_Equal_int_int_L1 a b) (fun i x => decide (b[i]? = some x)) (fun n => by rw [slices_Equal_int_int_L1, if_neg (by simp [len_def])]) (fun n i x hx => ?_) (by omega), cont_all, list_eq_all h]
  ·cases decide (a = b) <;> rfl
  ·have hi := (List.getElem?_eq_some_iff.1 hx).1
   obtain ⟨y, hy, _⟩ := at_lt (l := b) (i := i) (by omega)
   rw [slices_Equal_int_int_L1, if_pos (by simp [len_def]; omega), get_lt hx]
   simp only [Option.bind_some]
   rw [get_lt hy, hy, w_id (by omega) (by omega), show ((i : Int) + 1) = ((i + 1 : Nat) : Int) by omega]
   simp only [Option.bind_some]
   by_cases e : x = y
   ·simp [e]
   ·have e' : ¬ y = x := fun q => e q.symm
    simp [e, e']
 ·have hne : ¬ a = b := fun e => h (by rw [e])
  have h' : ¬ ((a.length : Int) = (b.length : Int)) := by omega
  simp [len_def, h', hne]
structure SigOK (D : List RDecl) (F : List RFunc) : Prop where
 dlen : D.length ≤ 4
 clen : ∀ d ∈ D, d.cons.length ≤ 3
 flds : ∀ d ∈ D, ∀ c ∈ d.cons, c.fields.length ≤ 3 ∧ ∀ t ∈ c.fields, tyB D t = true
 arrs : ∀ d ∈ D, tyB D d.from_ = true ∧ tyB D d.to = true
 flen : F.length ≤ 4
 funs : ∀ f ∈ F, f.params.length ≤ 3 ∧ (∀ t ∈ f.params, tyB D t = true) ∧ tyB D f.result = true
theorem nc_le12 {D : List RDecl} (h : ∀ d ∈ D, d.cons.length ≤ 3) : nc D ≤ 3 * D.length := by
 induction D with
 | nil => simp [nc]
 | cons d r ih =>
  have h1 := h d (by simp)
  have h2 := ih fun e he => h e (by simp [he])
  simp only [nc, List.map_cons, List.sum_cons, List.length_cons] at h2 ⊢
  omega
theorem SigOK.nc {D : List RDecl} {F : List RFunc} (S : SigOK D F) : nc D ≤ 12 := by have := nc_le12 S.clen; have := S.dlen; omega
theorem tyB_nn {D : List RDecl} {t : Int} (h : tyB D t = true) : 0 ≤ t ∧ t ≤ (D.length : Int) := by
 unfold tyB at h
 simpa using h
theorem SigOK.of {p : RProgram} (h : sigsB p.decls (p.funcs.map fun f => (f.params, f.result)) = true) : SigOK p.decls p.funcs := by
 unfold sigsB at h
 simp only [Bool.and_eq_true, List.length_map, List.all_map, decide_eq_true_eq] at h
 obtain ⟨h1, ⟨_, h2⟩, h3, _⟩ := h
 unfold typesB at h1
 simp only [Bool.and_eq_true, decide_eq_true_eq] at h1
 obtain ⟨h4, h5⟩ := h1
 rw [allAt_iff2] at h5
 have hd : ∀ d ∈ p.decls, ∃ i, declB p.decls i d = true := fun d hd => by
  obtain ⟨i, hi⟩ := List.mem_iff_getElem?.1 hd
  exact ⟨_, h5 i d hi⟩
 refine ⟨h4, fun d hm => ?_, fun d hm c hc => ?_, fun d hm => ?_, h2, fun f hf => ?_⟩
 ·obtain ⟨i, hi⟩ := hd d hm
  unfold declB at hi
  split at hi
  ·simp only [Bool.and_eq_true, decide_eq_true_eq] at hi; exact hi.1.1
  ·omega
 ·obtain ⟨i, hi⟩ := hd d hm
  unfold declB at hi
  split at hi
  ·simp only [Bool.and_eq_true, decide_eq_true_eq, List.all_eq_true] at hi
   have := hi.2 c hc
   unfold conB at this
   simp only [Bool.and_eq_true, decide_eq_true_eq, List.all_eq_true] at this
   exact this
  ·have := List.length_pos_of_mem hc; omega
 ·obtain ⟨i, hi⟩ := hd d hm
  unfold declB at hi
  split at hi
  ·simp only [Bool.and_eq_true, decide_eq_true_eq] at hi
   rw [hi.1.2.1, hi.1.2.2]
   have : tyB p.decls 0 = true := by unfold tyB; simp
   exact ⟨this, this⟩
  ·simp only [Bool.and_eq_true] at hi; exact hi.2
 ·have := List.all_eq_true.1 h3 f hf
  simp only [Function.comp, sigB, Bool.and_eq_true, decide_eq_true_eq, List.all_eq_true] at this
  exact this
section
variable {p : RProgram} {sg : RSignatures} {R1 : RProgram → List Int → RExpr → Option Int} {R2 : List Int → RSignatures → RExpr → Option Int} {T : List Int → RExpr → Int} {e : RExpr} {v : List Int} {N : Nat}
def oneM : List Int → Int
 | [] => -1
 | t :: r => if r.all (fun x => decide (x = t)) = true then t else -1
end
end RC



namespace RC
open Go
theorem w_wrap {n : Int} (h1 : n < -9223372036854775808) (h2 : -18446744073709551616 ≤ n) : Sh.w n = n + 18446744073709551616 := by
 unfold Sh.w
 rw [IntKind.wrap_i64]; omega
theorem impl_conAt_out {D : List RDecl} (hD : D.length ≤ 1048576) (hn : nc D ≤ 1048576) {c : Int} (hI : I64 c) (hc : c < 0 ∨ (nc D : Int) ≤ c) {N : Nat} (hN : 2000000 ≤ N) : impl_conAt N D c = some (-1, ⟨[]⟩) := by
 have key : ∀ (m j N : Nat) (c : Int), D.length - j = m → j ≤ D.length → m < N → I64 c → (c < 0 ∨ (nc (D.drop j) : Int) ≤ c) → impl_conAt_L1 D N c j = some (.inr ()) := by
  intro m
  induction m with
  | zero =>
   intro j N c h1 h2 h3 _ _
   obtain ⟨N, rfl⟩ : ∃ n, N = n + 1 := ⟨N - 1, by omega⟩
   rw [impl_conAt_L1, if_neg (by simp [len_def]; omega)]
  | succ m ih =>
   intro j N c h1 h2 h3 hI h4
   obtain ⟨N, rfl⟩ : ∃ n, N = n + 1 := ⟨N - 1, by omega⟩
   obtain ⟨d, hd, _⟩ := at_lt (l := D) (i := j) (by omega)
   have hs := nc_split D j
   rw [nc_drop hd] at h4 hs
   rw [impl_conAt_L1, if_pos (by simp [len_def]; omega), get_lt hd]
   simp only [Option.bind_some]
   have hlo := hI.1
   have hhi := hI.2
   have e1 : ¬ (0 ≤ c ∧ c < (d.cons.length : Int)) := by omega
   have e2 : (if decide (0 ≤ c) = true then some (decide (c < Sh.len d.cons)) else some false) = some false := by
    by_cases h0 : 0 ≤ c
    ·have : ¬ c < (d.cons.length : Int) := by omega
     simp [h0, len_def, this]
    ·simp [h0]
   rw [w_id (n := (j : Int) + 1) (by omega) (by omega), show ((j : Int) + 1) = ((j + 1 : Nat) : Int) by omega, len_def]
   rw [len_def] at e2
   by_cases h5 : c - (d.cons.length : Int) < -9223372036854775808
   ·have := ih (j + 1) N (Sh.w (c - (d.cons.length : Int))) (by omega) (by omega) (by omega) (by rw [w_wrap h5 (by omega)]; unfold I64; omega) (by rw [w_wrap h5 (by omega)]; omega)
    rw [e2]
    simp only [Option.bind_some, Bool.false_eq_true, if_false]
    exact this
   ·have := ih (j + 1) N (Sh.w (c - (d.cons.length : Int))) (by omega) (by omega) (by omega) (by rw [w_id (by omega) (by omega)]; unfold I64; omega) (by rw [w_id (by omega) (by omega)]; omega)
    rw [e2]
    simp only [Option.bind_some, Bool.false_eq_true, if_false]
    exact this
 have := key D.length 0 N c (by omega) (by omega) (by omega) hI (by simpa using hc)
 unfold impl_conAt
 rw [show (((0 : Nat) : Int)) = 0 from rfl] at this
 rw [this]; rfl
theorem conF_mem : ∀ {D : List RDecl} {k c t : Nat} {x : RCon}, conF D k c = some (t, x) → k < t ∧ t ≤ k + D.length ∧ ∃ d ∈ D, x ∈ d.cons
 | [], _, _, _, _, h => by simp [conF] at h
 | d :: r, k, c, t, x, h => by
  unfold conF at h
  cases hx : d.cons[c]? with
  | some y =>
   rw [hx] at h
   simp only [Option.some.injEq, Prod.mk.injEq] at h
   obtain ⟨rfl, rfl⟩ := h
   exact ⟨by omega, by simp, d, by simp, List.mem_of_getElem? hx⟩
  | none =>
   rw [hx] at h
   obtain ⟨h1, h2, e, h3, h4⟩ := conF_mem h
   exact ⟨by omega, by simp; omega, e, by simp [h3], h4⟩
def isArr (a b : Int) (d : RDecl) : Bool := decide (d.cons.length = 0) && (decide (d.from_ = a) && decide (d.to = b))
def arrI (a b : Int) : List RDecl → Nat → Int
 | [], _ => -1
 | d :: r, k => if isArr a b d = true then (k : Int) + 1 else arrI a b r (k + 1)
theorem arrI_ty {a b : Int} : ∀ (l : List RDecl) (k : Nat), arrI a b l k = -1 ∨ ((k : Int) < arrI a b l k ∧ arrI a b l k ≤ k + l.length)
 | [], _ => .inl rfl
 | d :: r, k => by
  unfold arrI
  by_cases h : isArr a b d = true
  ·rw [if_pos h]; right; simp only [List.length_cons]; omega
  ·rw [if_neg h]
   rcases arrI_ty r (k + 1) with h1 | h1
   ·exact .inl h1
   ·right; simp only [List.length_cons]; omega
theorem arr_cond {a b : Int} {d : RDecl} : (if decide ((Sh.len d.cons) = 0) = true then if decide (d.from_ = a) = true then some (decide (d.to = b)) else some false else some false) = some (isArr a b d) := by
 unfold isArr
 by_cases h1 : d.cons.length = 0 <;> by_cases h2 : d.from_ = a <;> simp [len_def, h1, h2]
theorem spec_arrowOf_eq {D : List RDecl} (hD : D.length ≤ 1048576) {a b : Int} {N : Nat} (hN : 2000000 ≤ N) : spec_arrowOf N D a b = some (arrI a b D 0) := by
 unfold spec_arrowOf
 have key : ∀ {M i : Nat}, i ≤ D.length → D.length - i < M → Sh.cont (spec_arrowOf_L1 D a b M i) id (fun () => some (-1)) = some (arrI a b (D.drop i) i) := by
  intro M i hi hM
  refine loop_ind D.length (fun M i => Sh.cont (spec_arrowOf_L1 D a b M i) id (fun () => some (-1)) = some (arrI a b (D.drop i) i)) ?_ ?_ hi hM
  ·intro n; rw [spec_arrowOf_L1, if_neg (by simp [len_def])]; simp [arrI, Sh.cont]
  ·intro n i hi ih
   obtain ⟨d, hd, _⟩ := at_lt hi
   rw [spec_arrowOf_L1, if_pos (by simp [len_def]; omega), get_lt hd, drop_cons hd]
   simp only [Option.bind_some]
   rw [arr_cond, w_id (by omega) (by omega), show ((i : Int) + 1) = ((i + 1 : Nat) : Int) by omega]
   simp only [Option.bind_some, arrI]
   by_cases h : isArr a b d = true
   ·rw [if_pos h, if_pos h]; simp [Sh.cont]
   ·rw [if_neg h, if_neg h, ih]
 have := key (Nat.zero_le _) (by omega : D.length - 0 < N)
 simpa using this
theorem impl_arrowOf_eq {D : List RDecl} (hD : D.length ≤ 1048576) {a b : Int} {N : Nat} (hN : 2000000 ≤ N) : impl_arrowOf N D a b = some (arrI a b D 0) := by
 unfold impl_arrowOf
 have key : ∀ {M i : Nat}, i ≤ D.length → D.length - i < M → Sh.cont (impl_arrowOf_L1 D a b M i) id (fun () => some (-1)) = some (arrI a b (D.drop i) i) := by
  intro M i hi hM
  refine loop_ind D.length (fun M i => Sh.cont (impl_arrowOf_L1 D a b M i) id (fun () => some (-1)) = some (arrI a b (D.drop i) i)) ?_ ?_ hi hM
  ·intro n; rw [impl_arrowOf_L1, if_neg (by simp [len_def])]; simp [arrI, Sh.cont]
  ·intro n i hi ih
   obtain ⟨d, hd, _⟩ := at_lt hi
   rw [impl_arrowOf_L1, if_pos (by simp [len_def]; omega), get_lt hd, drop_cons hd]
   simp only [Option.bind_some]
   rw [arr_cond, w_id (by omega) (by omega), show ((i : Int) + 1) = ((i + 1 : Nat) : Int) by omega]
   simp only [Option.bind_some, arrI]
   by_cases h : isArr a b d = true
   ·rw [if_pos h, if_pos h]; simp [Sh.cont]
   ·rw [if_neg h, if_neg h, ih]
 have := key (Nat.zero_le _) (by omega : D.length - 0 < N)
 simpa using this
def arrD (D : List RDecl) (t : Int) : Option RDecl := if 1 ≤ t ∧ t ≤ (D.length : Int) then (D[(t - 1).toNat]?).bind fun d => if d.cons.length = 0 then some d else none else none
theorem arrD_mem {D : List RDecl} {t : Int} {d : RDecl} (h : arrD D t = some d) : d ∈ D ∧ 1 ≤ t ∧ t ≤ (D.length : Int) ∧ D[(t - 1).toNat]? = some d := by
 unfold arrD at h
 split at h
 ·rename_i h1
  obtain ⟨e, he, h2⟩ := Option.bind_eq_some_iff.1 h
  split at h2
  ·cases h2; exact ⟨List.mem_of_getElem? he, h1.1, h1.2, he⟩
  ·cases h2
 ·cases h
theorem impl_arrowAt_eq {D : List RDecl} (hD : D.length ≤ 1048576) {t : Int} : impl_arrowAt D t = some ((arrD D t).elim (⟨0, 0, []⟩, false) fun d => (d, true)) := by
 unfold impl_arrowAt arrD
 by_cases h : 1 ≤ t ∧ t ≤ (D.length : Int)
 ·obtain ⟨a, ha⟩ : ∃ a : Nat, t = (a : Int) + 1 := ⟨(t - 1).toNat, by omega⟩
  subst ha
  obtain ⟨d, hd, _⟩ := at_lt (l := D) (i := a) (by omega)
  have e1 : ¬ ((a : Int) + 1 < 1) := by omega
  have e2 : ¬ ((D.length : Int) < (a : Int) + 1) := by omega
  rw [if_pos h, w_id (by omega) (by omega), show ((a : Int) + 1 - 1) = ((a : Nat) : Int) by omega, get_lt hd, Int.toNat_natCast, hd]
  by_cases h2 : d.cons.length = 0
  ·have h2' : d.cons = [] := List.eq_nil_of_length_eq_zero h2
   simp [e1, e2, len_def, h2']
  ·have h3 : 0 < d.cons.length := by omega
   have h2' : ¬ d.cons = [] := fun q => h2 (by rw [q]; rfl)
   simp [e1, e2, len_def, h2', h3]
 ·rw [if_neg h]
  by_cases h1 : t < 1
  ·simp [h1]
  ·have h2 : (D.length : Int) < t := by omega
   simp [h1, len_def, h2]
theorem spec_isArrow_eq {D : List RDecl} (hD : D.length ≤ 1048576) {t : Int} : spec_isArrow D t = some (arrD D t).isSome := by
 unfold spec_isArrow arrD
 rw [inRange_eq]
 by_cases h : 1 ≤ t ∧ t ≤ (D.length : Int)
 ·obtain ⟨a, ha⟩ : ∃ a : Nat, t = (a : Int) + 1 := ⟨(t - 1).toNat, by omega⟩
  subst ha
  obtain ⟨d, hd, _⟩ := at_lt (l := D) (i := a) (by omega)
  have e1 : ((1 : Int) ≤ (a : Int) + 1) := by omega
  have e2 : ((a : Int) + 1 ≤ (D.length : Int)) := by omega
  rw [if_pos h, w_id (by omega) (by omega), show ((a : Int) + 1 - 1) = ((a : Nat) : Int) by omega, get_lt hd, Int.toNat_natCast, hd]
  by_cases h2 : d.cons = [] <;> simp [e1, e2, len_def, h2]
 ·rw [if_neg h]
  have : (decide (1 ≤ t) && decide (t ≤ Sh.len D)) = false := by
   rw [len_def]
   by_cases h1 : 1 ≤ t
   ·have h2 : ¬ t ≤ (D.length : Int) := fun q => h ⟨h1, q⟩
    simp [h1, h2]
   ·simp [h1]
  simp [this]
section
variable {p : RProgram} {sg : RSignatures} {R1 : RProgram → List Int → RExpr → Option Int} {R2 : List Int → RSignatures → RExpr → Option Int} {T : List Int → RExpr → Int} {e : RExpr} {v : List Int} {N : Nat}
end
end RC



namespace RC
open Go
section
variable {p : RProgram} {R1 : RProgram → List Int → RExpr → Option Int} {R2 : List Int → RSignatures → RExpr → Option Int} {T : List Int → RExpr → Int} {e : RExpr} {v : List Int} {N : Nat}
theorem ty0 {D : List RDecl} : tyB D 0 = true := by unfold tyB; simp
theorem len_nil {α : Type} {l : List α} : decide ((Sh.len l) = 0) = decide (l = []) := by
 cases l with
 | nil => rfl
 | cons x r => exact decide_eq_decide.2 (by rw [len_def, List.length_cons]; exact ⟨fun h => by omega, fun h => nomatch h⟩)
end
end RC



namespace RC
open Go
section
variable {p : RProgram} {R1 : RProgram → List Int → RExpr → Option Int} {R2 : List Int → RSignatures → RExpr → Option Int} {T : List Int → RExpr → Int} {e : RExpr} {v : List Int} {N : Nat}
theorem sl_drop {α : Type} {l : List α} {m : Nat} (h : m ≤ l.length) : Sh.sl l 0 (m : Int) = some (l.take m) := by
 unfold Sh.sl
 rw [if_pos ⟨by omega, by omega, by omega⟩]; simp
end
end RC



namespace RC
open Go
def fld (D : List RDecl) (c : Int) : List Int := (conF D 0 c.toNat).elim [] fun x => x.2.fields
theorem consL_mem {D : List RDecl} {t c : Int} (h : c ∈ consL D t) : ∃ k : Nat, c = (k : Int) ∧ k < nc D := by
 unfold consL at h
 split at h
 ·rename_i h1
  obtain ⟨a, ha⟩ : ∃ a : Nat, t = (a : Int) + 1 := ⟨(t - 1).toNat, by omega⟩
  subst ha
  obtain ⟨d, hd, _⟩ := at_lt (l := D) (i := a) (by omega)
  rw [show (((a : Int) + 1) - 1).toNat = a by omega, hd] at h
  simp only [Option.elim_some, List.mem_map, List.mem_range] at h
  obtain ⟨i, hi, rfl⟩ := h
  have hs := nc_split D a
  rw [nc_drop hd] at hs
  exact ⟨nc (D.take a) + i, by omega, by omega⟩
 ·cases h
theorem consL_len {D : List RDecl} (h : ∀ d ∈ D, d.cons.length ≤ 3) (t : Int) : (consL D t).length ≤ 3 := by
 unfold consL
 split
 ·rename_i h1
  obtain ⟨a, ha⟩ : ∃ a : Nat, t = (a : Int) + 1 := ⟨(t - 1).toNat, by omega⟩
  subst ha
  obtain ⟨d, hd, hm⟩ := at_lt (l := D) (i := a) (by omega)
  rw [show (((a : Int) + 1) - 1).toNat = a by omega, hd]
  simp only [Option.elim_some, List.length_map, List.length_range]
  exact h d hm
 ·simp
theorem fld_ok {D : List RDecl} {F : List RFunc} (S : SigOK D F) {t c : Int} (h : c ∈ consL D t) {N : Nat} (hN : 2000000 ≤ N) : spec_conFields N D c = some (fld D c) ∧ impl_fieldsOf N D c = some (fld D c) ∧ (fld D c).length ≤ 3 ∧ ∀ x ∈ fld D c, tyB D x = true := by
 obtain ⟨k, rfl, hk⟩ := consL_mem h
 have hD := S.dlen
 have hn := S.nc
 obtain ⟨t, x, e1, e2⟩ := spec_conFields_eq (D := D) (by omega) (by omega) hk hN
 obtain ⟨t', x', e1', e3⟩ := impl_fieldsOf_eq (D := D) (by omega) (by omega) hk hN
 rw [e1] at e1'
 cases e1'
 obtain ⟨_, _, d, g3, g4⟩ := conF_mem e1
 have hf : fld D (k : Int) = x.fields := by unfold fld; rw [Int.toNat_natCast, e1]; rfl
 rw [hf]
 exact ⟨e2, e3, S.flds d g3 x g4⟩
section
variable {p : RProgram} {R1 : RProgram → List Int → RExpr → Option Int} {R2 : List Int → RSignatures → RExpr → Option Int} {T : List Int → RExpr → Int} {e : RExpr} {v : List Int} {N : Nat}
end
end RC



namespace RC
open Go
end RC



namespace RC
open Go
end RC



namespace RC
open Go
mutual
def ssz : Step → Nat | .mk _ _ _ a k => a.length + k.length + ksz k
def ksz : List (BlockOf Step) → Nat | [] => 0 | b :: k => bsz b + ksz k
def bsz : BlockOf Step → Nat | ⟨ss, _⟩ => ss.length + lsz ss
def lsz : List Step → Nat | [] => 0 | s :: l => ssz s + lsz l
end
theorem ssz_eq (s : Step) : ssz s = s.args.length + s.kids.length + ksz s.kids := by cases s; simp [ssz, Step.args, Step.kids]
theorem bsz_eq (b : Block) : bsz b = b.steps.length + lsz b.steps := by cases b; simp [bsz]
theorem ksz_drop {k : List Block} {i : Nat} {b : Block} (h : k[i]? = some b) : ksz (k.drop i) = bsz b + ksz (k.drop (i + 1)) := by rw [drop_cons h]; simp [ksz]
theorem lsz_drop {l : List Step} {i : Nat} {s : Step} (h : l[i]? = some s) : lsz (l.drop i) = ssz s + lsz (l.drop (i + 1)) := by rw [drop_cons h]; simp [lsz]
theorem ksz_mem {k : List Block} {b : Block} (h : b ∈ k) : bsz b ≤ ksz k := by
 induction k with
 | nil => cases h
 | cons c k ih =>
  simp only [ksz]
  rcases List.mem_cons.1 h with rfl | h
  ·omega
  ·have := ih h; omega
theorem lsz_mem {l : List Step} {s : Step} (h : s ∈ l) : ssz s ≤ lsz l := by
 induction l with
 | nil => cases h
 | cons c l ih =>
  simp only [lsz]
  rcases List.mem_cons.1 h with rfl | h
  ·omega
  ·have := ih h; omega
inductive StepIn : Step → Prop where
 | mk {s : Step} : I64 s.op → I64 s.num → I64 s.into → ListIn I64 s.args → s.kids.length ≤ 9223372036854775807 → (∀ b ∈ s.kids, b.steps.length ≤ 9223372036854775807) → (∀ b ∈ s.kids, I64 b.result) → (∀ b ∈ s.kids, ∀ t ∈ b.steps, StepIn t) → StepIn s
structure BlockIn (b : Block) : Prop where
 steps : ListIn StepIn b.steps
 result : I64 b.result
theorem StepIn.args {s : Step} (h : StepIn s) : ListIn I64 s.args := by cases h; assumption
theorem StepIn.klen {s : Step} (h : StepIn s) : s.kids.length ≤ 9223372036854775807 := by cases h; assumption
theorem StepIn.kids {s : Step} (h : StepIn s) : ∀ b ∈ s.kids, BlockIn b := by
 cases h with
 | mk _ _ _ _ _ h1 h2 h3 => exact fun b hb => ⟨⟨h3 b hb, h1 b hb⟩, h2 b hb⟩
def lf (left : Int) (s : Nat) : Int := if left - s < 0 then -1 else left - s
theorem szBlockS_L1_eq {rec : Block → Int → Option Int} {k : List Block} {L : Int} (hk : k.length ≤ 1048576) (hrec : ∀ b ∈ k, ∀ left : Int, 0 ≤ left → left ≤ L → rec b left = some (lf left (bsz b))) {N i : Nat} (hi : i ≤ k.length) (hN : k.length - i < N) :
  ∀ left : Int, 0 ≤ left → left ≤ L → laws_szBlockS_L1 k rec N left i = some (if left - ksz (k.drop i) < 0 then Sum.inl (-1) else Sum.inr (left - ksz (k.drop i))) := by
 refine loop_ind k.length (fun N i => ∀ left : Int, 0 ≤ left → left ≤ L → laws_szBlockS_L1 k rec N left i = some (if left - ksz (k.drop i) < 0 then Sum.inl (-1) else Sum.inr (left - ksz (k.drop i)))) ?_ ?_ hi hN
 ·intro n left h0 h1
  rw [laws_szBlockS_L1, if_neg (by simp [len_def])]
  simp [ksz]; omega
 ·intro n i hi ih left h0 h1
  obtain ⟨b, hb, hbm⟩ := at_lt hi
  rw [laws_szBlockS_L1, if_pos (by simp [len_def]; omega), get_lt hb]
  simp only [Option.bind_some]
  rw [hrec b hbm left h0 h1, ksz_drop hb]
  simp only [Option.bind_some]
  unfold lf
  by_cases h2 : left - bsz b < 0
  ·simp only [h2, if_true]
   rw [if_pos (by simp), if_pos (by omega)]
  ·simp only [h2, if_false]
   rw [if_neg (by simp), w_id (by omega) (by omega), show ((i : Int) + 1) = ((i + 1 : Nat) : Int) by omega, ih (left - bsz b) (by omega) (by omega)]
   have e : left - (bsz b : Int) - ksz (k.drop (i + 1)) = left - ((bsz b + ksz (k.drop (i + 1)) : Nat) : Int) := by omega
   rw [e]
theorem szBlockS_eq {N : Nat} (hN : 2000000 ≤ N) {rec : Block → Int → Option Int} {k : List Block} (hk : k.length ≤ 9223372036854775807) {left : Int} (h0 : 0 ≤ left) (h1 : left ≤ 1048576)
  (hrec : ∀ b ∈ k, ∀ l : Int, 0 ≤ l → l ≤ left - k.length → rec b l = some (lf l (bsz b))) : laws_szBlockS N rec k left = some (lf left (k.length + ksz k)) := by
 unfold laws_szBlockS
 rw [len_def, w_id (by omega) (by omega)]
 unfold lf
 by_cases h2 : left - (k.length : Int) < 0
 ·rw [if_pos (by simpa using h2), if_pos (by omega)]
 ·rw [if_neg (by simpa using h2)]
  have := szBlockS_L1_eq (by omega) hrec (Nat.zero_le _) (by omega : k.length - 0 < N) (left - k.length) (by omega) (Int.le_refl _)
  rw [show ((0 : Nat) : Int) = 0 from rfl, List.drop_zero] at this
  rw [this]
  by_cases h3 : left - (k.length : Int) - ksz k < 0
  ·rw [if_pos h3, if_pos (by omega)]; rfl
  ·rw [if_neg h3, if_neg (by omega)]
   simp only [Sh.cont_inr]
   congr 1; omega
theorem szStep_eq {N : Nat} (hN : 2000000 ≤ N) {rec : Block → Int → Option Int} {s : Step} (hs : StepIn s) {left : Int} (h0 : 0 ≤ left) (h1 : left ≤ 1048576)
  (hrec : ∀ b ∈ s.kids, ∀ l : Int, 0 ≤ l → l < left → rec b l = some (lf l (bsz b))) : laws_szStep N rec s left = some (lf left (ssz s)) := by
 unfold laws_szStep
 rw [szIntS_eq h0 h1 hs.args.2, ssz_eq]
 simp only [Option.bind_some]
 by_cases h2 : left - (s.args.length : Int) < 0
 ·have : left - ((s.args.length + s.kids.length + ksz s.kids : Nat) : Int) < 0 := by omega
  simp only [lf, if_pos h2, if_pos this]; rfl
 ·rw [if_neg h2, if_neg (by simpa using h2), szBlockS_eq hN hs.klen (by omega) (by omega) (fun b hb l l0 l1 => hrec b hb l l0 (by
   have : 0 < s.kids.length := List.length_pos_of_mem hb
   omega))]
  simp only [Option.bind_some]
  have e : lf (left - (s.args.length : Int)) (s.kids.length + ksz s.kids) = lf left (s.args.length + s.kids.length + ksz s.kids) := by
   unfold lf
   have e : left - (s.args.length : Int) - ((s.kids.length + ksz s.kids : Nat) : Int) = left - ((s.args.length + s.kids.length + ksz s.kids : Nat) : Int) := by omega
   rw [e]
  rw [e]
  unfold lf
  split <;> simp <;> omega
theorem szStepS_L1_eq {M : Nat} (hM : 2000000 ≤ M) {rec : Block → Int → Option Int} {l : List Step} {L : Int} (hL : L ≤ 1048576) (hk : l.length ≤ 1048576) (hs : ∀ s ∈ l, StepIn s) (hrec : ∀ s ∈ l, ∀ b ∈ s.kids, ∀ left : Int, 0 ≤ left → left < L → rec b left = some (lf left (bsz b))) {N i : Nat} (hi : i ≤ l.length) (hN : l.length - i < N) :
  ∀ left : Int, 0 ≤ left → left ≤ L → laws_szStepS_L1 M l rec N left i = some (if left - lsz (l.drop i) < 0 then Sum.inl (-1) else Sum.inr (left - lsz (l.drop i))) := by
 refine loop_ind l.length (fun N i => ∀ left : Int, 0 ≤ left → left ≤ L → laws_szStepS_L1 M l rec N left i = some (if left - lsz (l.drop i) < 0 then Sum.inl (-1) else Sum.inr (left - lsz (l.drop i)))) ?_ ?_ hi hN
 ·intro n left h0 h1
  rw [laws_szStepS_L1, if_neg (by simp [len_def])]
  simp [lsz]; omega
 ·intro n i hi ih left h0 h1
  obtain ⟨b, hb, hbm⟩ := at_lt hi
  rw [laws_szStepS_L1, if_pos (by simp [len_def]; omega), get_lt hb]
  simp only [Option.bind_some]
  rw [szStep_eq hM (hs b hbm) h0 (by omega) (fun c hc l' l0 l1 => hrec b hbm c hc l' l0 (by omega)), lsz_drop hb]
  simp only [Option.bind_some]
  unfold lf
  by_cases h2 : left - ssz b < 0
  ·simp only [h2, if_true]
   rw [if_pos (by simp), if_pos (by omega)]
  ·simp only [h2, if_false]
   rw [if_neg (by simp), w_id (by omega) (by omega), show ((i : Int) + 1) = ((i + 1 : Nat) : Int) by omega, ih (left - ssz b) (by omega) (by omega)]
   have e : left - (ssz b : Int) - lsz (l.drop (i + 1)) = left - ((ssz b + lsz (l.drop (i + 1)) : Nat) : Int) := by omega
   rw [e]
theorem szBlock_F_eq {N : Nat} (hN : 2000000 ≤ N) : ∀ (n : Nat) (b : Block) (left : Int), BlockIn b → 0 ≤ left → left ≤ 1048576 → left < n → laws_szBlock_F N n b left = some (lf left (bsz b)) := by
 intro n
 induction n with
 | zero => intro b left _ h0 _ h2; omega
 | succ n ih =>
  intro b left hb h0 h1 h2
  rw [laws_szBlock_F]
  unfold laws_szBlock_B laws_szStepS
  have hl := hb.steps.2
  rw [len_def, w_id (by omega) (by omega), bsz_eq]
  by_cases h3 : left - (b.steps.length : Int) < 0
  ·have : left - ((b.steps.length + lsz b.steps : Nat) : Int) < 0 := by omega
   rw [if_pos (by simpa using h3)]
   simp only [lf, if_pos this]; rfl
  ·rw [if_neg (by simpa using h3)]
   have := szStepS_L1_eq hN (rec := laws_szBlock_F N n) (l := b.steps) (L := left - b.steps.length) (by omega) (by omega) hb.steps.1 (fun s hs c hc l l0 l1 => ih c l ((hb.steps.1 s hs).kids c hc) l0 (by omega) (by have := List.length_pos_of_mem hs; omega)) (Nat.zero_le _) (by omega : b.steps.length - 0 < N) (left - b.steps.length) (by omega) (Int.le_refl _)
   rw [show ((0 : Nat) : Int) = 0 from rfl, List.drop_zero] at this
   rw [this]
   unfold lf
   by_cases h5 : left - (b.steps.length : Int) - lsz b.steps < 0
   ·rw [if_pos h5, if_pos (by omega)]; rfl
   ·rw [if_neg h5, if_neg (by omega)]
    simp only [Sh.cont_inr, Option.bind_some]
    rw [if_neg (by simp; omega)]
    congr 1; omega
end RC



namespace RC
open Go
def Bs (b : Block) : Prop := bsz b ≤ 1048576
theorem Bs.len {b : Block} (h : Bs b) : b.steps.length ≤ 1048576 := by unfold Bs at h; rw [bsz_eq] at h; omega
theorem step_le {b : Block} {s : Step} (hs : s ∈ b.steps) : ssz s + 1 ≤ bsz b := by
 have h1 := lsz_mem hs
 have h2 := List.length_pos_of_mem hs
 rw [bsz_eq]; omega
theorem kid_le {s : Step} {b : Block} (hb : b ∈ s.kids) : bsz b + 1 ≤ ssz s := by
 have h1 := ksz_mem hb
 have h2 := List.length_pos_of_mem hb
 rw [ssz_eq]; omega
theorem toBlockS_L1_eq {rec : Block → Option Block} {k : List Block} (hk : k.length ≤ 1048576) (hrec : ∀ b ∈ k, rec b = some b) {N i : Nat} (hi : i ≤ k.length) (hN : k.length - i < N) : ∀ m : List Block, m.length = k.length → m.take i = k.take i → laws_toBlockS_L1 k rec N i m = some k := by
 refine loop_ind k.length (fun N i => ∀ m : List Block, m.length = k.length → m.take i = k.take i → laws_toBlockS_L1 k rec N i m = some k) ?_ ?_ hi hN
 ·intro n m hm ht
  rw [laws_toBlockS_L1, if_neg (by simp [len_def])]
  rw [List.take_of_length_le (by omega), List.take_length] at ht
  rw [ht]
 ·intro n i hi ih m hm ht
  obtain ⟨x, hx, hxm⟩ := at_lt hi
  obtain ⟨y, hy, _⟩ := at_lt (l := m) (i := i) (by omega)
  rw [laws_toBlockS_L1, if_pos (by simp [len_def]; omega), get_lt hx]
  simp only [Option.bind_some]
  rw [hrec x hxm]
  simp only [Option.bind_some]
  rw [get_lt hy]
  simp only [Option.bind_some]
  rw [w_id (by omega) (by omega), put_nat, show ((i : Int) + 1) = ((i + 1 : Nat) : Int) by omega]
  refine ih _ (by simp [hm]) ?_
  rw [take_snoc hx, take_snoc (x := x) (by rw [List.getElem?_set]; simp; omega), List.take_set_of_le (Nat.le_refl _), ht]
theorem toStep_eq {N : Nat} (hN : 2000000 ≤ N) {rec : Block → Option Block} {s : Step} (hs : ssz s ≤ 1048576) (hrec : ∀ b ∈ s.kids, rec b = some b) : laws_toStep N rec s = some s := by
 rw [ssz_eq] at hs
 unfold laws_toStep laws_toBlockS
 rw [toIntS_eq (by omega) hN, len_def, mk_ok _ s.kids.length 32 (by omega) (by omega)]
 simp only [Option.bind_some]
 have := toBlockS_L1_eq (by omega) hrec (Nat.zero_le _) (by omega : s.kids.length - 0 < N) (List.replicate s.kids.length (Block.mk [] 0)) (by simp) (by simp)
 rw [show ((0 : Nat) : Int) = 0 from rfl] at this
 rw [this]
 exact congrArg some (Step.eta s).symm
theorem toStepS_L1_eq {M : Nat} (hM : 2000000 ≤ M) {rec : Block → Option Block} {k : List Step} (hk : k.length ≤ 1048576) (hs : ∀ s ∈ k, ssz s ≤ 1048576) (hrec : ∀ s ∈ k, ∀ b ∈ s.kids, rec b = some b) {N i : Nat} (hi : i ≤ k.length) (hN : k.length - i < N) : ∀ m : List Step, m.length = k.length → m.take i = k.take i → laws_toStepS_L1 M k rec N i m = some k := by
 refine loop_ind k.length (fun N i => ∀ m : List Step, m.length = k.length → m.take i = k.take i → laws_toStepS_L1 M k rec N i m = some k) ?_ ?_ hi hN
 ·intro n m hm ht
  rw [laws_toStepS_L1, if_neg (by simp [len_def])]
  rw [List.take_of_length_le (by omega), List.take_length] at ht
  rw [ht]
 ·intro n i hi ih m hm ht
  obtain ⟨x, hx, hxm⟩ := at_lt hi
  obtain ⟨y, hy, _⟩ := at_lt (l := m) (i := i) (by omega)
  rw [laws_toStepS_L1, if_pos (by simp [len_def]; omega), get_lt hx]
  simp only [Option.bind_some]
  rw [toStep_eq hM (hs x hxm) (hrec x hxm)]
  simp only [Option.bind_some]
  rw [get_lt hy]
  simp only [Option.bind_some]
  rw [w_id (by omega) (by omega), put_nat, show ((i : Int) + 1) = ((i + 1 : Nat) : Int) by omega]
  refine ih _ (by simp [hm]) ?_
  rw [take_snoc hx, take_snoc (x := x) (by rw [List.getElem?_set]; simp; omega), List.take_set_of_le (Nat.le_refl _), ht]
theorem toBlock_F_eq {N : Nat} (hN : 2000000 ≤ N) : ∀ (n : Nat) (b : Block), Bs b → bsz b < n → laws_toBlock_F N n b = some b := by
 intro n
 induction n with
 | zero => intro b _ h; omega
 | succ n ih =>
  intro b hb hn
  have hl := hb.len
  rw [laws_toBlock_F]
  unfold laws_toBlock_B laws_toStepS
  rw [len_def, mk_ok _ b.steps.length 72 (by omega) (by omega)]
  simp only [Option.bind_some]
  have := toStepS_L1_eq hN (rec := laws_toBlock_F N n) hl (fun s hs => by have := step_le hs; unfold Bs at hb; omega) (fun s hs c hc => ih c (by have := step_le hs; have := kid_le hc; unfold Bs at *; omega) (by have := step_le hs; have := kid_le hc; omega)) (Nat.zero_le _) (by omega : b.steps.length - 0 < N) (List.replicate b.steps.length (Step.mk 0 0 0 [] [])) (by simp) (by simp)
  rw [show ((0 : Nat) : Int) = 0 from rfl] at this
  rw [this]; rfl
theorem toBlock_eq {b : Block} (hb : Bs b) {N : Nat} (hN : 2000000 ≤ N) : laws_toBlock N b = some b := by
 unfold laws_toBlock
 exact toBlock_F_eq hN N b hb (by unfold Bs at hb; omega)
theorem eqBlockS_L1_eq {rec : Block → Block → Option Bool} {k : List Block} (hk : k.length ≤ 1048576) (hrec : ∀ b ∈ k, rec b b = some true) {N i : Nat} (hi : i ≤ k.length) (hN : k.length - i < N) : laws_eqBlockS_L1 k k rec N i = some (Sum.inr ()) := by
 refine loop_ind k.length (fun N i => laws_eqBlockS_L1 k k rec N i = some (Sum.inr ())) ?_ ?_ hi hN
 ·intro n
  rw [laws_eqBlockS_L1, if_neg (by simp [len_def])]
 ·intro n i hi ih
  obtain ⟨x, hx, hxm⟩ := at_lt hi
  rw [laws_eqBlockS_L1, if_pos (by simp [len_def]; omega), get_lt hx]
  simp only [Option.bind_some]
  rw [hrec x hxm, w_id (by omega) (by omega), show ((i : Int) + 1) = ((i + 1 : Nat) : Int) by omega]
  simpa using ih
theorem eqStep_eq {N : Nat} (hN : 2000000 ≤ N) {rec : Block → Block → Option Bool} {s : Step} (hs : ssz s ≤ 1048576) (hrec : ∀ b ∈ s.kids, rec b b = some true) : laws_eqStep N rec s s = some true := by
 rw [ssz_eq] at hs
 unfold laws_eqStep laws_eqBlockS
 have := eqBlockS_L1_eq (k := s.kids) (by omega) hrec (Nat.zero_le _) (by omega : s.kids.length - 0 < N)
 rw [show ((0 : Nat) : Int) = 0 from rfl] at this
 simp [eqIntS_eq (l := s.args) (by omega) hN, this]
theorem eqStepS_L1_eq {M : Nat} (hM : 2000000 ≤ M) {rec : Block → Block → Option Bool} {k : List Step} (hk : k.length ≤ 1048576) (hs : ∀ s ∈ k, ssz s ≤ 1048576) (hrec : ∀ s ∈ k, ∀ b ∈ s.kids, rec b b = some true) {N i : Nat} (hi : i ≤ k.length) (hN : k.length - i < N) : laws_eqStepS_L1 M k k rec N i = some (Sum.inr ()) := by
 refine loop_ind k.length (fun N i => laws_eqStepS_L1 M k k rec N i = some (Sum.inr ())) ?_ ?_ hi hN
 ·intro n
  rw [laws_eqStepS_L1, if_neg (by simp [len_def])]
 ·intro n i hi ih
  obtain ⟨x, hx, hxm⟩ := at_lt hi
  rw [laws_eqStepS_L1, if_pos (by simp [len_def]; omega), get_lt hx]
  simp only [Option.bind_some]
  rw [eqStep_eq hM (hs x hxm) (hrec x hxm), w_id (by omega) (by omega), show ((i : Int) + 1) = ((i + 1 : Nat) : Int) by omega]
  simpa using ih
theorem eqBlock_F_eq {N : Nat} (hN : 2000000 ≤ N) : ∀ (n : Nat) (b : Block), Bs b → bsz b < n → laws_eqBlock_F N n b b = some true := by
 intro n
 induction n with
 | zero => intro b _ h; omega
 | succ n ih =>
  intro b hb hn
  have hl := hb.len
  rw [laws_eqBlock_F]
  unfold laws_eqBlock_B laws_eqStepS
  have := eqStepS_L1_eq hN (rec := laws_eqBlock_F N n) hl (fun s hs => by have := step_le hs; unfold Bs at hb; omega) (fun s hs c hc => ih c (by have := step_le hs; have := kid_le hc; unfold Bs at *; omega) (by have := step_le hs; have := kid_le hc; omega)) (Nat.zero_le _) (by omega : b.steps.length - 0 < N)
  rw [show ((0 : Nat) : Int) = 0 from rfl] at this
  simp [this]
theorem eqBlock_eq {b : Block} (hb : Bs b) {N : Nat} (hN : 2000000 ≤ N) : laws_eqBlock N b b = some true := by
 unfold laws_eqBlock
 exact eqBlock_F_eq hN N b hb (by unfold Bs at hb; omega)
mutual
def nss : Step → Nat | .mk _ _ _ _ k => nks k + 1
def nks : List (BlockOf Step) → Nat | [] => 0 | b :: k => nst b + nks k
def nst : BlockOf Step → Nat | ⟨ss, _⟩ => nls ss
def nls : List Step → Nat | [] => 0 | s :: l => nss s + nls l
end
theorem nss_eq (s : Step) : nss s = nks s.kids + 1 := by cases s; simp [nss, Step.kids]
theorem nst_eq (b : Block) : nst b = nls b.steps := by cases b; simp [nst]
theorem nks_drop {k : List Block} {i : Nat} {b : Block} (h : k[i]? = some b) : nks (k.drop i) = nst b + nks (k.drop (i + 1)) := by rw [drop_cons h]; simp [nks]
theorem nls_drop {l : List Step} {i : Nat} {s : Step} (h : l[i]? = some s) : nls (l.drop i) = nss s + nls (l.drop (i + 1)) := by rw [drop_cons h]; simp [nls]
theorem left_L2_eq {b : Block} {s : Step} {i : Nat} {rec : Block → Int → Option Int} (hs : b.steps[i]? = some s) (hk : s.kids.length ≤ 1048576) (hrec : ∀ c ∈ s.kids, ∀ l : Int, 0 ≤ l → l ≤ 600 → rec c l = some (lf l (nst c))) {N k : Nat} (hi : k ≤ s.kids.length) (hN : s.kids.length - k < N) : ∀ left : Int, 0 ≤ left → left ≤ 600 →
  spec_stepsLeft_B_L2 i b rec N left k = some (if left - nks (s.kids.drop k) < 0 then Sum.inl (-1) else Sum.inr (left - nks (s.kids.drop k))) := by
 refine loop_ind s.kids.length (fun N k => ∀ left : Int, 0 ≤ left → left ≤ 600 → spec_stepsLeft_B_L2 i b rec N left k = some (if left - nks (s.kids.drop k) < 0 then Sum.inl (-1) else Sum.inr (left - nks (s.kids.drop k)))) ?_ ?_ hi hN
 ·intro n left h0 h1
  rw [spec_stepsLeft_B_L2, get_lt hs]
  simp only [Option.bind_some]
  rw [if_neg (by simp [len_def])]
  simp [nks]; omega
 ·intro n k hi ih left h0 h1
  obtain ⟨c, hc, hcm⟩ := at_lt hi
  rw [spec_stepsLeft_B_L2, get_lt hs]
  simp only [Option.bind_some]
  rw [if_pos (by simp [len_def]; omega), get_lt hc]
  simp only [Option.bind_some]
  rw [hrec c hcm left h0 h1, nks_drop hc]
  simp only [Option.bind_some]
  unfold lf
  by_cases h2 : left - nst c < 0
  ·simp only [h2, if_true]
   rw [if_pos (by simp), if_pos (by omega)]
  ·simp only [h2, if_false]
   rw [if_neg (by simp), w_id (by omega) (by omega), show ((k : Int) + 1) = ((k + 1 : Nat) : Int) by omega, ih (left - nst c) (by omega) (by omega)]
   have e : left - (nst c : Int) - nks (s.kids.drop (k + 1)) = left - ((nst c + nks (s.kids.drop (k + 1)) : Nat) : Int) := by omega
   rw [e]
theorem left_L1_eq {b : Block} {rec : Block → Int → Option Int} {M : Nat} (hM : 2000000 ≤ M) (hl : b.steps.length ≤ 1048576) (hk : ∀ s ∈ b.steps, s.kids.length ≤ 1048576) (hrec : ∀ s ∈ b.steps, ∀ c ∈ s.kids, ∀ l : Int, 0 ≤ l → l ≤ 600 → rec c l = some (lf l (nst c))) {N i : Nat} (hi : i ≤ b.steps.length) (hN : b.steps.length - i < N) : ∀ left : Int, 0 ≤ left → left ≤ 600 →
  spec_stepsLeft_B_L1 M b rec N left i = some (if left - nls (b.steps.drop i) < 0 then Sum.inl (-1) else Sum.inr (left - nls (b.steps.drop i))) := by
 refine loop_ind b.steps.length (fun N i => ∀ left : Int, 0 ≤ left → left ≤ 600 → spec_stepsLeft_B_L1 M b rec N left i = some (if left - nls (b.steps.drop i) < 0 then Sum.inl (-1) else Sum.inr (left - nls (b.steps.drop i)))) ?_ ?_ hi hN
 ·intro n left h0 h1
  rw [spec_stepsLeft_B_L1, if_neg (by simp [len_def])]
  simp [nls]; omega
 ·intro n i hi ih left h0 h1
  obtain ⟨s, hs, hsm⟩ := at_lt hi
  rw [spec_stepsLeft_B_L1, if_pos (by simp [len_def]; omega), nls_drop hs, nss_eq]
  by_cases h2 : left < 1
  ·rw [if_pos (by simpa using h2), if_pos (by omega)]
  ·rw [if_neg (by simpa using h2), w_id (n := left - 1) (by omega) (by omega)]
   have hks := hk s hsm
   have L2 := left_L2_eq hs hks (hrec s hsm) (Nat.zero_le _) (by omega : s.kids.length - 0 < M) (left - 1) (by omega) (by omega)
   rw [show ((0 : Nat) : Int) = 0 from rfl, List.drop_zero] at L2
   rw [L2]
   by_cases h3 : left - 1 - (nks s.kids : Int) < 0
   ·rw [if_pos h3, if_pos (by omega)]; rfl
   ·rw [if_neg h3]
    simp only [Sh.cont_inr]
    rw [w_id (by omega) (by omega), show ((i : Int) + 1) = ((i + 1 : Nat) : Int) by omega, ih _ (by omega) (by omega)]
    have e : left - 1 - (nks s.kids : Int) - nls (b.steps.drop (i + 1)) = left - ((nks s.kids + 1 + nls (b.steps.drop (i + 1)) : Nat) : Int) := by omega
    rw [e]
theorem kids_len {b : Block} (hb : Bs b) {s : Step} (hs : s ∈ b.steps) : s.kids.length ≤ 1048576 := by
 have h1 := step_le hs
 rw [ssz_eq] at h1
 unfold Bs at hb; omega
theorem kid_bs {b : Block} (hb : Bs b) {s : Step} (hs : s ∈ b.steps) {c : Block} (hc : c ∈ s.kids) : Bs c ∧ bsz c + 2 ≤ bsz b := by
 have h1 := step_le hs
 have h2 := kid_le hc
 unfold Bs at *
 exact ⟨by omega, by omega⟩
theorem stepsLeft_F_eq {N : Nat} (hN : 2000000 ≤ N) : ∀ (n : Nat) (b : Block) (left : Int), Bs b → bsz b < n → 0 ≤ left → left ≤ 600 → spec_stepsLeft_F N n b left = some (lf left (nst b)) := by
 intro n
 induction n with
 | zero => intro b left _ h; omega
 | succ n ih =>
  intro b left hb hn h0 h1
  have hl := hb.len
  rw [spec_stepsLeft_F]
  unfold spec_stepsLeft_B
  have := left_L1_eq (rec := spec_stepsLeft_F N n) hN hl (fun s hs => kids_len hb hs) (fun s hs c hc l l0 l1 => ih c l (kid_bs hb hs hc).1 (by have := (kid_bs hb hs hc).2; omega) l0 l1) (Nat.zero_le _) (by omega : b.steps.length - 0 < N) left h0 h1
  rw [show ((0 : Nat) : Int) = 0 from rfl, List.drop_zero, ← nst_eq] at this
  rw [this]
  unfold lf
  by_cases h3 : left - (nst b : Int) < 0
  ·rw [if_pos h3, if_pos h3]; rfl
  ·rw [if_neg h3, if_neg h3]; rfl
theorem spec_stepsOf_eq {b : Block} (hb : Bs b) {N : Nat} (hN : 2000000 ≤ N) : spec_stepsOf N b = some (if nst b ≤ 600 then (nst b : Int) else -1) := by
 unfold spec_stepsOf spec_stepsLeft
 rw [stepsLeft_F_eq hN N b 600 hb (by unfold Bs at hb; omega) (by decide) (by decide)]
 simp only [Option.bind_some]
 by_cases h : nst b ≤ 600
 ·have e : lf 600 (nst b) = 600 - (nst b : Int) := by unfold lf; rw [if_neg (by omega)]
  rw [e, if_neg (by simp; omega), if_pos h, w_id (by omega) (by omega)]
  congr 1; omega
 ·have e : lf 600 (nst b) = -1 := by unfold lf; rw [if_pos (by omega)]
  rw [e, if_neg h]; rfl
def Cs (n : Int) (m : Nat) (r : Bool × Int) : Prop := (n + m ≤ 600 → r = (true, n + m)) ∧ (¬ n + m ≤ 600 → r.1 = false)
theorem count_L2_eq {s : Step} {rec : Int → Block → Option (Bool × Int)} (hk : s.kids.length ≤ 1048576) (hrec : ∀ c ∈ s.kids, ∀ n : Int, 0 ≤ n → n ≤ 600 → ∃ r, rec n c = some r ∧ Cs n (nst c) r) {N k : Nat} (hi : k ≤ s.kids.length) (hN : s.kids.length - k < N) : ∀ n : Int, 0 ≤ n → n ≤ 600 →
  ∃ r, impl_countSteps_B_L2 s rec N k n = some r ∧ (n + nks (s.kids.drop k) ≤ 600 → r = Sum.inr (n + nks (s.kids.drop k))) ∧ (¬ n + nks (s.kids.drop k) ≤ 600 → ∃ m, r = Sum.inl (false, m)) := by
 refine loop_ind s.kids.length (fun N k => ∀ n : Int, 0 ≤ n → n ≤ 600 → ∃ r, impl_countSteps_B_L2 s rec N k n = some r ∧ (n + nks (s.kids.drop k) ≤ 600 → r = Sum.inr (n + nks (s.kids.drop k))) ∧ (¬ n + nks (s.kids.drop k) ≤ 600 → ∃ m, r = Sum.inl (false, m))) ?_ ?_ hi hN
 ·intro f n h0 h1
  rw [impl_countSteps_B_L2, if_neg (by simp [len_def])]
  refine ⟨_, rfl, fun _ => by simp [nks], fun h => ?_⟩
  simp [nks] at h; omega
 ·intro f k hi ih n h0 h1
  obtain ⟨c, hc, hcm⟩ := at_lt hi
  obtain ⟨⟨ok, m⟩, r1, r2, r3⟩ := hrec c hcm n h0 h1
  rw [impl_countSteps_B_L2, if_pos (by simp [len_def]; omega), get_lt hc]
  simp only [Option.bind_some]
  rw [r1, nks_drop hc]
  simp only [Option.bind_some]
  by_cases h2 : n + (nst c : Int) ≤ 600
  ·cases r2 h2
   rw [if_neg (by simp), w_id (by omega) (by omega), show ((k : Int) + 1) = ((k + 1 : Nat) : Int) by omega]
   obtain ⟨r, e1, e2, e3⟩ := ih (n + nst c) (by omega) h2
   have e : n + (nst c : Int) + nks (s.kids.drop (k + 1)) = n + ((nst c + nks (s.kids.drop (k + 1)) : Nat) : Int) := by omega
   rw [e] at e2 e3
   exact ⟨r, e1, e2, e3⟩
  ·have : ok = false := r3 h2
   subst this
   rw [if_pos (by simp)]
   exact ⟨_, rfl, fun h => by omega, fun _ => ⟨_, rfl⟩⟩
theorem count_L1_eq {b : Block} {rec : Int → Block → Option (Bool × Int)} {M : Nat} (hM : 2000000 ≤ M) (hl : b.steps.length ≤ 1048576) (hk : ∀ s ∈ b.steps, s.kids.length ≤ 1048576) (hrec : ∀ s ∈ b.steps, ∀ c ∈ s.kids, ∀ n : Int, 0 ≤ n → n ≤ 600 → ∃ r, rec n c = some r ∧ Cs n (nst c) r) {N i : Nat} (hi : i ≤ b.steps.length) (hN : b.steps.length - i < N) : ∀ n : Int, 0 ≤ n → n ≤ 600 →
  ∃ r, impl_countSteps_B_L1 M b rec N i n = some r ∧ (n + nls (b.steps.drop i) ≤ 600 → r = Sum.inr (n + nls (b.steps.drop i))) ∧ (¬ n + nls (b.steps.drop i) ≤ 600 → ∃ m, r = Sum.inl (false, m)) := by
 refine loop_ind b.steps.length (fun N i => ∀ n : Int, 0 ≤ n → n ≤ 600 → ∃ r, impl_countSteps_B_L1 M b rec N i n = some r ∧ (n + nls (b.steps.drop i) ≤ 600 → r = Sum.inr (n + nls (b.steps.drop i))) ∧ (¬ n + nls (b.steps.drop i) ≤ 600 → ∃ m, r = Sum.inl (false, m))) ?_ ?_ hi hN
 ·intro f n h0 h1
  rw [impl_countSteps_B_L1, if_neg (by simp [len_def])]
  refine ⟨_, rfl, fun _ => by simp [nls], fun h => ?_⟩
  simp [nls] at h; omega
 ·intro f i hi ih n h0 h1
  obtain ⟨s, hs, hsm⟩ := at_lt hi
  rw [impl_countSteps_B_L1, if_pos (by simp [len_def]; omega), get_lt hs, nls_drop hs, nss_eq]
  simp only [Option.bind_some]
  rw [w_id (n := n + 1) (by omega) (by omega)]
  by_cases h2 : 600 < n + 1
  ·rw [if_pos (by simpa using h2)]
   exact ⟨_, rfl, fun h => by omega, fun _ => ⟨_, rfl⟩⟩
  ·rw [if_neg (by simpa using h2)]
   have hks := hk s hsm
   obtain ⟨r, e1, e2, e3⟩ := count_L2_eq hks (hrec s hsm) (Nat.zero_le _) (by omega : s.kids.length - 0 < M) (n + 1) (by omega) (by omega)
   rw [show ((0 : Nat) : Int) = 0 from rfl] at e1
   rw [List.drop_zero] at e2 e3
   rw [e1]
   by_cases h3 : n + 1 + (nks s.kids : Int) ≤ 600
   ·rw [e2 h3]
    simp only [Sh.cont_inr]
    rw [w_id (by omega) (by omega), show ((i : Int) + 1) = ((i + 1 : Nat) : Int) by omega]
    obtain ⟨r', f1, f2, f3⟩ := ih _ (by omega) h3
    have e : n + 1 + (nks s.kids : Int) + nls (b.steps.drop (i + 1)) = n + ((nks s.kids + 1 + nls (b.steps.drop (i + 1)) : Nat) : Int) := by omega
    rw [e] at f2 f3
    exact ⟨r', f1, f2, f3⟩
   ·obtain ⟨m, hm⟩ := e3 h3
    rw [hm]
    exact ⟨_, rfl, fun h => by omega, fun _ => ⟨_, rfl⟩⟩
theorem countSteps_F_eq {N : Nat} (hN : 2000000 ≤ N) : ∀ (f : Nat) (b : Block) (n : Int), Bs b → bsz b < f → 0 ≤ n → n ≤ 600 → ∃ r, impl_countSteps_F N f n b = some r ∧ Cs n (nst b) r := by
 intro f
 induction f with
 | zero => intro b n _ h; omega
 | succ f ih =>
  intro b n hb hn h0 h1
  have hl := hb.len
  rw [impl_countSteps_F]
  unfold impl_countSteps_B
  obtain ⟨r, e1, e2, e3⟩ := count_L1_eq (rec := impl_countSteps_F N f) hN hl (fun s hs => kids_len hb hs) (fun s hs c hc l l0 l1 => ih c l (kid_bs hb hs hc).1 (by have := (kid_bs hb hs hc).2; omega) l0 l1) (Nat.zero_le _) (by omega : b.steps.length - 0 < N) n h0 h1
  rw [show ((0 : Nat) : Int) = 0 from rfl] at e1
  rw [List.drop_zero, ← nst_eq] at e2 e3
  rw [e1]
  by_cases h3 : n + (nst b : Int) ≤ 600
  ·rw [e2 h3]
   exact ⟨_, rfl, fun _ => rfl, fun h => absurd h3 h⟩
  ·obtain ⟨m, hm⟩ := e3 h3
   rw [hm]
   exact ⟨_, rfl, fun h => absurd h h3, fun _ => rfl⟩
theorem impl_StepsOf_eq {b : Block} (hb : Bs b) {N : Nat} (hN : 2000000 ≤ N) : impl_StepsOf N b = some (if nst b ≤ 600 then (nst b : Int) else -1) := by
 unfold impl_StepsOf impl_countSteps
 obtain ⟨⟨ok, m⟩, e1, e2, e3⟩ := countSteps_F_eq hN N b 0 hb (by unfold Bs at hb; omega) (by decide) (by decide)
 rw [e1]
 simp only [Option.bind_some]
 by_cases h : nst b ≤ 600
 ·cases e2 (by omega)
  rw [if_neg (by simp), if_pos h]
  congr 1; omega
 ·have : ok = false := e3 (by omega)
  subst this
  rw [if_pos (by simp), if_neg h]
end RC



namespace RC
open Go
def ctg (o : Int) : Bool := decide (14 ≤ o) && decide (o ≤ 17)
mutual
def us (v : Int) : Step → Nat | .mk o _ _ a k => if ctg o then 0 else a.countP (fun x => decide (x = v)) + uk v k
def uk (v : Int) : List (BlockOf Step) → Nat | [] => 0 | b :: k => ub v b + uk v k
def ub (v : Int) : BlockOf Step → Nat | ⟨ss, r⟩ => (if r = v then 1 else 0) + ul v ss
def ul (v : Int) : List Step → Nat | [] => 0 | s :: l => us v s + ul v l
end
def ua (v : Int) (a : List Int) : Nat := a.countP fun x => decide (x = v)
theorem ua_le (v : Int) (a : List Int) : ua v a ≤ a.length := List.countP_le_length
theorem ctg_spec (o : Int) : spec_isCounting o = some (ctg o) := by unfold spec_isCounting; rw [inRange_eq]; rfl
theorem ctg_impl (o : Int) : impl_isCounting o = some (ctg o) := by
 unfold impl_isCounting ctg
 by_cases h : 14 ≤ o <;> simp [h]
end RC



namespace RC
open Go
def atV (v : List Int) (a : Int) : Option Int := if 0 ≤ a ∧ a < (v.length : Int) then v[a.toNat]? else none
def argT (v : List Int) : List Int → Option (List Int)
 | [] => some []
 | a :: r => (atV v a).bind fun t => (argT v r).map (t :: ·)
theorem atV_in {v : List Int} {a : Int} (h0 : 0 ≤ a) (h1 : a < (v.length : Int)) : ∃ t, atV v a = some t ∧ Sh.get v a = some t ∧ t ∈ v := by
 obtain ⟨t, g1, g2⟩ := get_pos h0 h1
 exact ⟨t, by unfold atV; rw [if_pos ⟨h0, h1⟩, g2], g1, List.mem_of_getElem? g2⟩
theorem atV_out {v : List Int} {a : Int} (h : ¬ (0 ≤ a ∧ a < (v.length : Int))) : atV v a = none := if_neg h
theorem argT_iff {v : List Int} : ∀ {args l : List Int}, argT v args = some l ↔ args.length = l.length ∧ ∀ (i : Nat) a, args[i]? = some a → atV v a = l[i]? ∧ (atV v a).isSome = true
 | [], l => by
  simp only [argT, Option.some.injEq, List.length_nil]
  constructor
  ·rintro rfl; simp
  ·rintro ⟨h, _⟩; exact (List.eq_nil_of_length_eq_zero h.symm).symm
 | a :: r, l => by
  simp only [argT]
  constructor
  ·intro h
   obtain ⟨t, h1, h2⟩ := Option.bind_eq_some_iff.1 h
   obtain ⟨m, h3, rfl⟩ := Option.map_eq_some_iff.1 h2
   obtain ⟨h4, h5⟩ := argT_iff.1 h3
   refine ⟨by simp [h4], fun i b hb => ?_⟩
   cases i with
   | zero => simp only [List.getElem?_cons_zero, Option.some.injEq] at hb ⊢; subst hb; rw [h1]; simp
   | succ i => simpa using h5 i b (by simpa using hb)
  ·rintro ⟨h1, h2⟩
   cases l with
   | nil => simp at h1
   | cons t m =>
    have h3 := h2 0 a rfl
    simp only [List.getElem?_cons_zero] at h3
    have h4 : argT v r = some m := argT_iff.2 ⟨by simpa using h1, fun i b hb => by have := h2 (i + 1) b (by simpa using hb); simpa using this⟩
    rw [h3.1, h4]; rfl
theorem typed_eq {v args types : List Int} (hv : v.length ≤ 1048576) (ha : args.length ≤ 1048576) {N : Nat} (hN : 2000000 ≤ N) : spec_typed N v args types = some (decide (argT v args = some types)) := by
 unfold spec_typed
 by_cases h : args.length = types.length
 ·rw [if_neg (by simp [len_def, h]), all_loop (l := args) (spec_typed_L1 v args types) (fun i a => decide (atV v a = types[i]? ∧ (atV v a).isSome = true)) (fun n => by rw [spec_typed_L1, if_neg (by simp [len_def])]) (fun n i a hi => ?_) (by omega), cont_all]
  ·have : allAt (fun i a => decide (atV v a = types[i]? ∧ (atV v a).isSome = true)) 0 args = decide (argT v args = some types) := by
    rw [Bool.eq_iff_iff, allAt_iff2, decide_eq_true_iff, argT_iff]
    constructor
    ·intro g
     exact ⟨h, fun i a ha => by have := g i a ha; rw [decide_eq_true_iff, Nat.zero_add] at this; exact this⟩
    ·rintro ⟨_, g⟩ i a ha
     rw [decide_eq_true_iff, Nat.zero_add]; exact g i a ha
   rw [this]
   cases decide (argT v args = some types) <;> rfl
  ·have hil := (List.getElem?_eq_some_iff.1 hi).1
   obtain ⟨t, ht, _⟩ := at_lt (l := types) (i := i) (by omega)
   rw [spec_typed_L1, if_pos (by simp [len_def]; omega), get_lt hi]
   simp only [Option.bind_some]
   rw [inRange_eq, len_def, w_id (n := (v.length : Int) - 1) (by omega) (by omega), w_id (n := (i : Int) + 1) (by omega) (by omega), show ((i : Int) + 1) = ((i + 1 : Nat) : Int) by omega]
   simp only [Option.bind_some]
   by_cases hr : 0 ≤ a ∧ a < (v.length : Int)
   ·obtain ⟨x, x1, x2, _⟩ := atV_in hr.1 hr.2
    have hr2 : a ≤ (v.length : Int) - 1 := by omega
    rw [x1, x2, get_lt ht, ht]
    by_cases q : x = t <;> simp [hr.1, hr2, q]
   ·rw [atV_out hr]
    have : (decide (0 ≤ a) && decide (a ≤ (v.length : Int) - 1)) = false := by
     rw [Bool.and_eq_false_iff, decide_eq_false_iff_not, decide_eq_false_iff_not]; omega
    rw [this]; simp
 ·have h1 : ¬ ((args.length : Int) = (types.length : Int)) := by omega
  have h2 : ¬ argT v args = some types := fun q => h (argT_iff.1 q).1
  simp [len_def, h1, h2]
theorem args_loop {v : List Int} {s : Step} (hv : v.length ≤ 1048576) (ha : s.args.length ≤ 1048576) {N : Nat} (hN : 2000000 ≤ N) :
  impl_signatures_stepType_L1 v s N 0 [] = some ((argT v s.args).elim (.inl (-1, false)) .inr) := by
 have key : ∀ {M i : Nat}, i ≤ s.args.length → s.args.length - i < M → ∀ acc : List Int, acc.length = i → impl_signatures_stepType_L1 v s M i acc = some ((argT v (s.args.drop i)).elim (.inl (-1, false)) fun l => .inr (acc ++ l)) := by
  intro M i hi hM
  refine loop_ind s.args.length (fun M i => ∀ acc : List Int, acc.length = i → impl_signatures_stepType_L1 v s M i acc = some ((argT v (s.args.drop i)).elim (.inl (-1, false)) fun l => .inr (acc ++ l))) ?_ ?_ hi hM
  ·intro n acc _
   rw [impl_signatures_stepType_L1, if_neg (by simp [len_def]), List.drop_length]; simp [argT]
  ·intro n i hi ih acc hacc
   obtain ⟨a, hx, _⟩ := at_lt hi
   rw [impl_signatures_stepType_L1, if_pos (by simp [len_def]; omega), get_lt hx, drop_cons hx]
   simp only [Option.bind_some, argT, len_def]
   by_cases hr : 0 ≤ a ∧ a < (v.length : Int)
   ·obtain ⟨x, x1, x2, _⟩ := atV_in hr.1 hr.2
    have r1 : ¬ a < 0 := by omega
    have r2 : ¬ (v.length : Int) ≤ a := by omega
    rw [x1, x2]
    simp only [r1, r2, decide_false, Bool.false_eq_true, if_false, Option.bind_some]
    rw [app_ok acc [x] 8 (by simp; omega) (by simp; omega), w_id (by omega) (by omega), show ((i : Int) + 1) = ((i + 1 : Nat) : Int) by omega]
    simp only [Option.bind_some]
    rw [ih (acc ++ [x]) (by simp [hacc])]
    cases argT v (s.args.drop (i + 1)) <;> simp
   ·rw [atV_out hr]
    by_cases r1 : a < 0
    ·simp [r1]
    ·have r2 : (v.length : Int) ≤ a := by omega
     simp [r1, r2]
 have := key (Nat.zero_le _) (by omega : s.args.length - 0 < N) [] rfl
 simpa using this
section
variable {D : List RDecl} {G : List RSignature} {ks : List Int} {op num : Int} {N : Nat}
theorem simp_int (h : op = 0) : impl_signatures_simpleType N ⟨D, G⟩ op num ks = some (0, (decide (-999 ≤ num) && decide (num ≤ 999)) && decide (ks = [])) := by
 unfold impl_signatures_simpleType
 simp only [h, decide_true, if_true, len_nil]
 by_cases a : -999 ≤ num <;> by_cases b : num ≤ 999 <;> simp [a, b, Sh.cont]
theorem simp_arith (hk : ks.length ≤ 1048576) (hN : 2000000 ≤ N) (h : op = 1 ∨ op = 2 ∨ op = 3 ∨ op = 4) : impl_signatures_simpleType N ⟨D, G⟩ op num ks = some (0, decide (num = 0) && decide (ks = [0, 0])) := by
 unfold impl_signatures_simpleType
 have e3 : slices_Equal_int_int N ks [0, 0] = some (decide (ks = [0, 0])) := Equal_eq hk hN
 rcases h with h | h | h | h <;> simp only [h, Int.reduceEq, decide_true, decide_false, Bool.false_eq_true, if_true, if_false, Option.bind_some, Sh.cont_inr] <;> rw [e3] <;> by_cases a : num = 0 <;> simp [a]
theorem simp_print (hk : ks.length ≤ 1048576) (hN : 2000000 ≤ N) (h : op = 5) : impl_signatures_simpleType N ⟨D, G⟩ op num ks = some (0, decide (num = 0) && decide (ks = [0])) := by
 unfold impl_signatures_simpleType
 simp only [h, Int.reduceEq, decide_true, decide_false, Bool.false_eq_true, if_true, if_false, Option.bind_some, Sh.cont_inr]
 rw [Equal_eq hk hN]
 by_cases a : num = 0 <;> simp [a]
theorem simp_con {F : List RFunc} (S : SigOK D F) (hk : ks.length ≤ 1048576) (hI : I64 num) (hN : 2000000 ≤ N) (h : op = 6) :
  (∃ t x, 0 < t ∧ tyB D t = true ∧ (∀ y ∈ x, 0 ≤ y) ∧ spec_conType N D num = some t ∧ spec_conFields N D num = some x ∧ impl_signatures_simpleType N ⟨D, G⟩ op num ks = some (t, decide (ks = x))) ∨
  (spec_conType N D num = some (-1) ∧ impl_signatures_simpleType N ⟨D, G⟩ op num ks = some (-1, false)) := by
 have hD := S.dlen
 have hn := S.nc
 by_cases hr : 0 ≤ num ∧ num < (nc D : Int)
 ·obtain ⟨c, hc⟩ := Int.eq_ofNat_of_zero_le hr.1
  have hc2 : c < nc D := by omega
  obtain ⟨t, x, e1, e2⟩ := spec_conType_in (D := D) (by omega) (by omega) hc2 hN
  obtain ⟨t', x', e1', e3⟩ := spec_conFields_eq (D := D) (by omega) (by omega) hc2 hN
  obtain ⟨t'', x'', e1'', e4⟩ := impl_conAt_eq (D := D) (by omega) (by omega) hc2 hN
  rw [e1] at e1' e1''
  cases e1'; cases e1''
  obtain ⟨g1, g2, d, g3, g4⟩ := conF_mem e1
  have hx := S.flds d g3 x g4
  refine .inl ⟨(t : Int), x.fields, by omega, by unfold tyB; simp; omega, fun y hy => (tyB_nn (hx.2 y hy)).1, by rw [hc, e2], by rw [hc, e3], ?_⟩
  unfold impl_signatures_simpleType
  simp only [h, Int.reduceEq, decide_true, decide_false, Bool.false_eq_true, if_true, if_false, Option.bind_some]
  rw [hc, e4]
  simp only [Option.bind_some]
  rw [Equal_eq hk hN, if_pos (by simp)]
  simp [Sh.cont]
 ·refine .inr ⟨spec_conType_out (by omega) (by omega) (by omega) hN, ?_⟩
  unfold impl_signatures_simpleType
  simp only [h, Int.reduceEq, decide_true, decide_false, Bool.false_eq_true, if_true, if_false, Option.bind_some]
  rw [impl_conAt_out (by omega) (by omega) hI (by omega) hN]
  simp [Sh.cont]
theorem simp_call {f : RSignature} (hk : ks.length ≤ 1048576) (hG : G.length ≤ 4) (hN : 2000000 ≤ N) (h : op = 9) (f0 : 0 ≤ num) (f1 : num < (G.length : Int)) (f5 : Sh.get G num = some f) : impl_signatures_simpleType N ⟨D, G⟩ op num ks = some (f.result, decide (ks = f.params)) := by
 have f0' : ¬ num < 0 := by omega
 have f1' : ¬ (G.length : Int) ≤ num := by omega
 unfold impl_signatures_simpleType
 simp only [h, Int.reduceEq, decide_true, decide_false, Bool.false_eq_true, if_true, if_false, Option.bind_some, len_def, f0', f1']
 rw [f5]
 simp only [Option.bind_some]
 rw [Equal_eq hk hN]
 simp [Sh.cont]
theorem simp_close {f : RSignature} (hk : ks.length ≤ 1048576) (hD : D.length ≤ 4) (hG : G.length ≤ 4) (hp : f.params.length ≤ 3) (hN : 2000000 ≤ N) (h : op = 10) (f0 : 0 ≤ num) (f1 : num < (G.length : Int)) (f5 : Sh.get G num = some f) :
  (f.params = [] ∧ impl_signatures_simpleType N ⟨D, G⟩ op num ks = some (-1, false)) ∨
  (∃ m x, f.params.length = m + 1 ∧ f.params[m]? = some x ∧ impl_signatures_simpleType N ⟨D, G⟩ op num ks = some (arrI x f.result D 0, decide (0 ≤ arrI x f.result D 0) && decide (ks = f.params.take m))) := by
 have f0' : ¬ num < 0 := by omega
 have f1' : ¬ (G.length : Int) ≤ num := by omega
 by_cases hp0 : f.params.length = 0
 ·refine .inl ⟨List.eq_nil_of_length_eq_zero hp0, ?_⟩
  unfold impl_signatures_simpleType
  simp only [h, Int.reduceEq, decide_true, decide_false, Bool.false_eq_true, if_true, if_false, Option.bind_some, len_def, f0', f1']
  rw [f5]
  simp only [Option.bind_some, hp0]
  rw [w_id (by omega) (by omega)]
  simp [Sh.cont]
 ·obtain ⟨m, hm⟩ : ∃ m, f.params.length = m + 1 := ⟨f.params.length - 1, by omega⟩
  obtain ⟨x, hx, hxm⟩ := at_lt (l := f.params) (i := m) (by omega)
  have hw : Sh.w ((f.params.length : Int) - 1) = (m : Int) := by rw [w_id (by omega) (by omega)]; omega
  have hm0 : ¬ ((m : Int) < 0) := by omega
  refine .inr ⟨m, x, hm, hx, ?_⟩
  unfold impl_signatures_simpleType
  simp only [h, Int.reduceEq, decide_true, decide_false, Bool.false_eq_true, if_true, if_false, Option.bind_some, len_def, f0', f1']
  rw [f5]
  simp only [Option.bind_some, hw, hm0, decide_false, Bool.false_eq_true, if_false]
  rw [get_lt hx]
  simp only [Option.bind_some]
  rw [impl_arrowOf_eq (by omega) hN, sl_drop (by omega)]
  simp only [Option.bind_some]
  rw [Equal_eq hk hN]
  by_cases z : 0 ≤ arrI x f.result D 0 <;> simp [z, Sh.cont]
theorem simp_callout (hG : G.length ≤ 4) (h : op = 9 ∨ op = 10) (hr : num < 0 ∨ (G.length : Int) ≤ num) : impl_signatures_simpleType N ⟨D, G⟩ op num ks = some (-1, false) := by
 unfold impl_signatures_simpleType
 rcases h with h | h <;> simp only [h, Int.reduceEq, decide_true, decide_false, Bool.false_eq_true, if_true, if_false, Option.bind_some, len_def] <;> rcases hr with hr | hr
 ·simp [hr, Sh.cont]
 ·have : ¬ num < 0 := by omega
  simp [hr, this, Sh.cont]
 ·simp [hr, Sh.cont]
 ·have : ¬ num < 0 := by omega
  simp [hr, this, Sh.cont]
theorem simp_apply (hD : D.length ≤ 4) (h : op = 11) {a b : Int} (hk : ks = [a, b]) : impl_signatures_simpleType N ⟨D, G⟩ op num ks = some ((arrD D a).elim (0, false) fun d => (d.to, decide (b = d.from_ ∧ num = 0))) := by
 subst hk
 unfold impl_signatures_simpleType
 simp only [h, Int.reduceEq, decide_true, decide_false, Bool.false_eq_true, if_true, if_false, Option.bind_some, len_def, List.length_cons, List.length_nil]
 rw [show Sh.get [a, b] 0 = some a from rfl, show Sh.get [a, b] 1 = some b from rfl]
 simp only [Option.bind_some]
 rw [impl_arrowAt_eq (by omega)]
 simp only [Option.bind_some]
 cases hA : arrD D a with
 | none => simp [Sh.cont]
 | some d => by_cases c1 : b = d.from_ <;> by_cases c2 : num = 0 <;> simp [c1, c2, Sh.cont]
theorem simp_applyout (h : op = 11) (hk : ¬ ks.length = 2) : impl_signatures_simpleType N ⟨D, G⟩ op num ks = some (-1, false) := by
 have hk' : ¬ ((ks.length : Int) = 2) := by omega
 unfold impl_signatures_simpleType
 simp only [h, Int.reduceEq, decide_true, decide_false, Bool.false_eq_true, if_true, if_false, Option.bind_some, len_def, hk']
 simp [Sh.cont]
theorem simp_other (h : op < 0 ∨ 11 < op ∨ op = 7 ∨ op = 8) : impl_signatures_simpleType N ⟨D, G⟩ op num ks = some (-1, false) := by
 unfold impl_signatures_simpleType
 simp only [show ¬ op = 0 by omega, show ¬ op = 1 by omega, show ¬ op = 2 by omega, show ¬ op = 3 by omega, show ¬ op = 4 by omega, show ¬ op = 5 by omega, show ¬ op = 6 by omega, show ¬ op = 9 by omega, show ¬ op = 10 by omega, show ¬ op = 11 by omega, decide_false, Bool.false_eq_true, if_false, Option.bind_some]
 simp [Sh.cont]
end
end RC



namespace RC
open Go
def sgN (n : RNormal) : RSignatures := ⟨n.decls, n.routines.map fun r => ⟨r.params, r.lent, r.result⟩⟩
def rtF (r : RRoutine) : RFunc := ⟨r.params, r.result, .mk 0 0 []⟩
abbrev NSig (n : RNormal) : Prop := SigOK n.decls (n.routines.map rtF)
theorem sgN_len {n : RNormal} : (sgN n).funcs.length = n.routines.length := by show (n.routines.map _).length = _; simp
theorem NSig.rlen {n : RNormal} (S : NSig n) : n.routines.length ≤ 4 := by have := S.flen; simpa using this
theorem rout_at {n : RNormal} (S : NSig n) (k : Int) : (∃ r, 0 ≤ k ∧ k < (n.routines.length : Int) ∧ Sh.get n.routines k = some r ∧ Sh.get (sgN n).funcs k = some ⟨r.params, r.lent, r.result⟩ ∧ r.params.length ≤ 3 ∧ (∀ t ∈ r.params, tyB n.decls t = true) ∧ tyB n.decls r.result = true) ∨ (k < 0 ∨ (n.routines.length : Int) ≤ k) := by
 by_cases h : 0 ≤ k ∧ k < (n.routines.length : Int)
 ·obtain ⟨r, h1, h2⟩ := get_pos h.1 h.2
  have hm := List.mem_of_getElem? h2
  obtain ⟨q1, q2, q3⟩ := S.funs (rtF r) (List.mem_map_of_mem hm)
  refine .inl ⟨r, h.1, h.2, h1, ?_, q1, q2, q3⟩
  rw [get_pos' h.1]
  show ((n.routines.map fun r => (⟨r.params, r.lent, r.result⟩ : RSignature)))[k.toNat]? = _
  rw [List.getElem?_map, h2]; rfl
 ·exact .inr (by omega)
theorem one_loop {γ : Type} {bad : γ} {ts : List Int} (L : Nat → Int → Int → Option (γ ⊕ Int)) (h0 : ∀ n r, L (n + 1) r (ts.length : Int) = some (.inr r))
  (hs : ∀ n (i : Nat) r t, ts[i]? = some t → L (n + 1) r (i : Int) = if t < 0 ∨ (0 < i ∧ t ≠ r) then some (.inl bad) else L n t ((i + 1 : Nat) : Int)) {N : Nat} (hN : ts.length < N) (hne : ts ≠ []) (hty : ∀ t ∈ ts, t < 0 → t = -1) (r0 : Int) :
  L N r0 0 = some (if oneM ts < 0 then .inl bad else .inr (oneM ts)) := by
 have rest : ∀ (d i n : Nat) (r : Int), 0 ≤ r → ts.length - i = d → 0 < i → i ≤ ts.length → d < n → L n r i = some (if (ts.drop i).all (fun x => decide (x = r)) = true then .inr r else .inl bad) := by
  intro d
  induction d with
  | zero =>
   intro i n r _ h1 h2 h3 h4
   obtain ⟨n, rfl⟩ : ∃ q, n = q + 1 := ⟨n - 1, by omega⟩
   rw [show i = ts.length by omega, h0, List.drop_length]; rfl
  | succ d ih =>
   intro i n r hr h1 h2 h3 h4
   obtain ⟨n, rfl⟩ : ∃ q, n = q + 1 := ⟨n - 1, by omega⟩
   obtain ⟨t, ht, _⟩ := at_lt (l := ts) (i := i) (by omega)
   rw [hs n i r t ht, drop_cons ht, List.all_cons]
   by_cases h5 : t = r
   ·subst h5
    rw [if_neg (by rintro (h | h); omega; exact h.2 rfl), ih (i + 1) n _ hr (by omega) (by omega) (by omega) (by omega)]
    simp
   ·rw [if_pos (.inr ⟨h2, h5⟩)]
    simp [h5]
 cases hts : ts with
 | nil => exact absurd hts hne
 | cons t r =>
  obtain ⟨n, hn⟩ : ∃ q, N = q + 1 := ⟨N - 1, by omega⟩
  have h1 := hs n 0 r0 t (by rw [hts]; rfl)
  rw [show ((0 : Nat) : Int) = 0 from rfl] at h1
  have hpos : 1 ≤ ts.length := by rw [hts]; simp
  rw [hn, h1]
  by_cases h2 : t < 0
  ·have := hty t (by rw [hts]; simp) h2
   subst this
   have ho : oneM (-1 :: r) = -1 := by
    show (if (r.all fun x => decide (x = -1)) = true then (-1 : Int) else -1) = -1
    split <;> rfl
   rw [if_pos (.inl h2), ho, if_pos (by omega)]
  ·rw [if_neg (by rintro (h | h); exact h2 h; exact absurd h.1 (Nat.lt_irrefl _)), rest _ 1 n t (by omega) rfl (by omega) hpos (by omega), hts, List.drop_succ_cons, List.drop_zero]
   by_cases h3 : r.all (fun x => decide (x = t)) = true
   ·have ho : oneM (t :: r) = t := if_pos h3
    rw [if_pos h3, ho, if_neg h2]
   ·have ho : oneM (t :: r) = -1 := if_neg h3
    rw [if_neg h3, ho, if_pos (by omega)]
theorem oneM_mem {ts : List Int} : oneM ts = -1 ∨ oneM ts ∈ ts := by
 cases ts with
 | nil => exact .inl rfl
 | cons t r =>
  unfold oneM
  dsimp only
  split
  ·exact .inr (by simp)
  ·exact .inl rfl
def NOK (n : RNormal) (R1 : RNormal → List Int → Block → Option Int) (R2 : RSignatures → List Int → Block → Option Int) (T : List Int → Block → Int) (m : Nat) : Prop :=
 ∀ (v : List Int) (b : Block), BlockIn b → Bs b → nst b < m → v.length + 4 * nst b ≤ 4000 → (∀ x ∈ v, tyB n.decls x = true) → R1 n v b = some (T v b) ∧ R2 (sgN n) v b = some (T v b) ∧ (T v b = -1 ∨ tyB n.decls (T v b) = true)
structure SK (n : RNormal) (s : Step) (v : List Int) : Prop where
 inn : StepIn s
 size : ssz s ≤ 1048576
 len : v.length + 4 * nss s ≤ 4000
 tys : ∀ x ∈ v, tyB n.decls x = true
theorem nks_mem {k : List Block} {b : Block} (h : b ∈ k) : nst b ≤ nks k := by
 induction k with
 | nil => cases h
 | cons c k ih =>
  simp only [nks]
  rcases List.mem_cons.1 h with rfl | h
  ·omega
  ·have := ih h; omega
theorem Concat_eq4 {N : Nat} {a b : List Int} (ha : a.length ≤ 4000) (hb : b.length ≤ 4000) (hN : 2000000 ≤ N) : slices_Concat_int_int N [a, b] = some (a ++ b) := by
 obtain ⟨n, rfl⟩ : ∃ n, N = n + 3 := ⟨N - 3, by omega⟩
 unfold slices_Concat_int_int
 have e1 : slices_Concat_int_int_L1 [a, b] (n + 3) 0 0 = some ((a.length + b.length : Nat) : Int) := by
  rw [slices_Concat_int_int_L1, if_pos (by simp [len_def]), show Sh.get [a, b] 0 = some a from rfl]
  simp only [Option.bind_some]
  rw [len_def, w_id (n := (0 : Int) + 1) (by omega) (by omega), w_id (by omega) (by omega), if_neg (by rw [decide_eq_true_eq]; omega)]
  rw [slices_Concat_int_int_L1, if_pos (by simp [len_def]), show Sh.get [a, b] (0 + 1) = some b from rfl]
  simp only [Option.bind_some]
  rw [len_def, w_id (n := (0 : Int) + 1 + 1) (by omega) (by omega), w_id (by omega) (by omega), if_neg (by rw [decide_eq_true_eq]; omega)]
  rw [slices_Concat_int_int_L1, if_neg (by simp [len_def])]
  congr 1; omega
 have e2 : slices_Concat_int_int_L2 [a, b] (n + 3) 0 [] = some (a ++ b) := by
  rw [slices_Concat_int_int_L2, if_pos (by simp [len_def]), show Sh.get [a, b] 0 = some a from rfl]
  simp only [Option.bind_some]
  rw [app_ok [] a 8 (by simp; omega) (by simp; omega), w_id (n := (0 : Int) + 1) (by omega) (by omega)]
  simp only [Option.bind_some, List.nil_append]
  rw [slices_Concat_int_int_L2, if_pos (by simp [len_def]), show Sh.get [a, b] (0 + 1) = some b from rfl]
  simp only [Option.bind_some]
  rw [app_ok a b 8 (by omega) (by omega), w_id (n := (0 : Int) + 1 + 1) (by omega) (by omega)]
  simp only [Option.bind_some]
  rw [slices_Concat_int_int_L2, if_neg (by simp [len_def])]
 have e3 : slices_Grow_int_int ((a.length + b.length : Nat) : Int) = some [] := by
  unfold slices_Grow_int_int
  rw [if_neg (by simp; omega), w_id (n := (0 : Int) - 0) (by omega) (by omega), w_id (by omega) (by omega)]
  by_cases h : 0 < a.length + b.length
  ·rw [if_pos (by simp; omega), show (((a.length + b.length : Nat) : Int) - (0 - 0)) = ((a.length + b.length : Nat) : Int) by omega, mk_ok _ _ _ (by omega) (by omega)]
   simp only [Option.bind_some]
   have := hi_ok (l := List.replicate (a.length + b.length) (0 : Int)) (j := 0) (by omega)
   rw [show ((0 : Nat) : Int) = 0 from rfl] at this
   rw [this]; rfl
  ·rw [if_neg (by simp; omega)]; rfl
 rw [e1]
 simp only [Option.bind_some]
 rw [e3]
 simp only [Option.bind_some]
 rw [e2]; rfl
section
variable {n : RNormal} {R1 : RNormal → List Int → Block → Option Int} {R2 : RSignatures → List Int → Block → Option Int} {T : List Int → Block → Int} {s : Step} {v : List Int} {N : Nat}
theorem SK.vlen (V : SK n s v) : v.length ≤ 4000 := by have := V.len; omega
theorem SK.alen (V : SK n s v) : s.args.length ≤ 1048576 := by have := V.size; rw [ssz_eq] at this; omega
theorem kid_ty (H : NOK n R1 R2 T (nss s)) (V : SK n s v) {b : Block} (hb : b ∈ s.kids) {m : List Int} (hm : m.length ≤ 3) (ht : ∀ x ∈ m, tyB n.decls x = true) :
  R1 n (v ++ m) b = some (T (v ++ m) b) ∧ R2 (sgN n) (v ++ m) b = some (T (v ++ m) b) ∧ (T (v ++ m) b = -1 ∨ tyB n.decls (T (v ++ m) b) = true) := by
 have h1 := nks_mem hb
 have h2 := nss_eq s
 have h3 := kid_le hb
 have h4 := V.size
 have h5 := V.len
 refine H (v ++ m) b (V.inn.kids b hb) (by unfold Bs; omega) (by omega) (by rw [List.length_append]; omega) fun x hx => ?_
 rcases List.mem_append.1 hx with h | h
 ·exact V.tys x h
 ·exact ht x h
def kts (T : List Int → Block → Int) (v : List Int) (ms : List (List Int)) (ks : List Block) : List Int := List.zipWith (fun m k => T (v ++ m) k) ms ks
theorem kts_get {ms : List (List Int)} {ks : List Block} {i : Nat} {m : List Int} {k : Block} (h1 : ms[i]? = some m) (h2 : ks[i]? = some k) : (kts T v ms ks)[i]? = some (T (v ++ m) k) := by
 unfold kts; rw [List.getElem?_zipWith, h1, h2]
theorem kts_ty (H : NOK n R1 R2 T (nss s)) (V : SK n s v) {ms : List (List Int)} (hm : ∀ m ∈ ms, m.length ≤ 3 ∧ ∀ x ∈ m, tyB n.decls x = true) : ∀ t ∈ kts T v ms s.kids, t = -1 ∨ tyB n.decls t = true := fun t ht => by
 obtain ⟨i, hi⟩ := List.mem_iff_getElem?.1 ht
 unfold kts at hi
 rw [List.getElem?_zipWith] at hi
 cases h1 : ms[i]? with
 | none => rw [h1] at hi; simp at hi
 | some m =>
  cases h2 : s.kids[i]? with
  | none => rw [h1, h2] at hi; simp at hi
  | some k =>
   rw [h1, h2] at hi
   simp only [Option.some.injEq] at hi
   subst hi
   obtain ⟨q1, q2⟩ := hm m (List.mem_of_getElem? h1)
   exact (kid_ty H V (List.mem_of_getElem? h2) q1 q2).2.2
theorem impl_kids (H : NOK n R1 R2 T (nss s)) (V : SK n s v) (hN : 2000000 ≤ N) {ms : List (List Int)} (hl : ms.length = s.kids.length) (hne : ms ≠ []) (hml : ms.length ≤ 10) (hm : ∀ m ∈ ms, m.length ≤ 3 ∧ ∀ x ∈ m, tyB n.decls x = true) :
  impl_signatures_kidsType N R2 (sgN n) v s.kids ms = some (if oneM (kts T v ms s.kids) < 0 then (-1, false) else (oneM (kts T v ms s.kids), true)) := by
 unfold impl_signatures_kidsType
 have hkl : (kts T v ms s.kids).length = s.kids.length := by unfold kts; simp [hl]
 rw [one_loop (bad := (-1, false)) (ts := kts T v ms s.kids) (impl_signatures_kidsType_L1 N (sgN n) v s.kids ms R2) (fun q r => by rw [impl_signatures_kidsType_L1, if_neg (by simp [len_def, hkl])]) (fun q i r t ht => ?_) (by omega) (fun q => by have := congrArg List.length q; rw [hkl, ← hl] at this; exact hne (List.eq_nil_of_length_eq_zero (by simpa using this))) (fun t ht hn => by rcases kts_ty H V hm t ht with q | q; exact q; have := (tyB_nn q).1; omega) (-1)]
 ·by_cases h : oneM (kts T v ms s.kids) < 0 <;> simp [h, Sh.cont]
 ·have hi := (List.getElem?_eq_some_iff.1 ht).1
  obtain ⟨m, h1, hmm⟩ := at_lt (l := ms) (i := i) (by omega)
  obtain ⟨k, h2, hkm⟩ := at_lt (l := s.kids) (i := i) (by omega)
  rw [kts_get h1 h2] at ht
  simp only [Option.some.injEq] at ht
  subst ht
  obtain ⟨q1, q2⟩ := hm m hmm
  rw [impl_signatures_kidsType_L1, if_pos (by simp [len_def]; omega), get_lt h2]
  simp only [Option.bind_some]
  rw [get_lt h1]
  simp only [Option.bind_some]
  have hvl := V.vlen
  have hc : slices_Concat_int_int N [v, m] = some (v ++ m) := Concat_eq4 hvl (by omega) hN
  rw [hc]
  simp only [Option.bind_some]
  rw [(kid_ty H V hkm q1 q2).2.1, w_id (by omega) (by omega), show ((i : Int) + 1) = ((i + 1 : Nat) : Int) by omega]
  simp only [Option.bind_some]
  by_cases c1 : T (v ++ m) k < 0
  ·simp [c1]
  ·by_cases c2 : 0 < i
   ·by_cases c3 : T (v ++ m) k = r
    ·have c1' : ¬ r < 0 := c3 ▸ c1
     simp [c1', c2, c3]
    ·simp [c1, c2, c3]
   ·simp [c1, c2]
theorem spec_kids (H : NOK n R1 R2 T (nss s)) (V : SK n s v) (S : NSig n) (hN : 2000000 ≤ N) {ms : List (List Int)} (h : (s.op = 7 ∧ ms = [[], []]) ∨ (s.op = 8 ∧ ms = (consL n.decls s.num).map (fld n.decls))) :
  spec_kidsType N R1 n v s = some (if ms = [] ∨ ¬ s.kids.length = ms.length then -1 else oneM (kts T v ms s.kids)) := by
 have hD := S.dlen
 have hn := S.nc
 have hvl := V.vlen
 have hcl := consL_len S.clen s.num
 unfold spec_kidsType
 rw [spec_consOf_eq (by omega) (by omega) hN]
 simp only [Option.bind_some]
 have hmany : (if decide (s.op = 7) = true then some (2 : Int) else some (Sh.len (consL n.decls s.num))) = some (ms.length : Int) := by
  rcases h with ⟨h1, h2⟩ | ⟨h1, h2⟩
  ·rw [h2]; simp [h1]
  ·rw [h2]; simp [h1, len_def]
 rw [hmany]
 simp only [Option.bind_some, len_def]
 by_cases h0 : ms = []
 ·have eg : (if ms = [] ∨ ¬ s.kids.length = ms.length then (-1 : Int) else oneM (kts T v ms s.kids)) = -1 := if_pos (.inl h0)
  rw [eg]; simp [h0]
 ·have h0' : ¬ ((ms.length : Int) = 0) := fun q => h0 (List.eq_nil_of_length_eq_zero (by omega))
  by_cases hl : s.kids.length = ms.length
  ·have hl' : ((s.kids.length : Int) = (ms.length : Int)) := by omega
   have eg : (if ms = [] ∨ ¬ s.kids.length = ms.length then (-1 : Int) else oneM (kts T v ms s.kids)) = oneM (kts T v ms s.kids) := if_neg (by rintro (q | q); exact h0 q; exact q hl)
   rw [eg]
   simp only [h0', hl', decide_false, decide_true, Bool.not_true, Bool.false_eq_true, if_false, Option.bind_some]
   have hkl : (kts T v ms s.kids).length = s.kids.length := by unfold kts; simp [hl]
   have hml : ms.length ≤ 3 := by rcases h with ⟨_, h2⟩ | ⟨_, h2⟩ <;> rw [h2] <;> simp; exact hcl
   have hm : ∀ m ∈ ms, m.length ≤ 3 ∧ ∀ x ∈ m, tyB n.decls x = true := fun m hm => by
    rcases h with ⟨_, h2⟩ | ⟨_, h2⟩
    ·rw [h2] at hm; simp at hm; subst hm; simp
    ·rw [h2] at hm
     obtain ⟨c, hc, rfl⟩ := List.mem_map.1 hm
     exact (fld_ok S hc hN).2.2
   rw [one_loop (bad := (-1 : Int)) (ts := kts T v ms s.kids) (spec_kidsType_L1 N (ms.length : Int) n v s (consL n.decls s.num) R1) (fun q r => by rw [spec_kidsType_L1, if_neg (by simp; omega)]) (fun q i r t ht => ?_) (by omega) (fun q => by have := congrArg List.length q; rw [hkl, hl] at this; exact h0 (List.eq_nil_of_length_eq_zero (by simpa using this))) (fun t ht hn => by rcases kts_ty H V hm t ht with q | q; exact q; have := (tyB_nn q).1; omega) 0]
   ·by_cases q : oneM (kts T v ms s.kids) < 0
    ·have : oneM (kts T v ms s.kids) = -1 := by
      rcases oneM_mem (ts := kts T v ms s.kids) with z | z
      ·exact z
      ·rcases kts_ty H V hm _ z with y | y
       ·exact y
       ·have := (tyB_nn y).1; omega
     rw [this]; simp [Sh.cont]
    ·simp [q, Sh.cont]
   ·have hi := (List.getElem?_eq_some_iff.1 ht).1
    obtain ⟨m, h1, hmm⟩ := at_lt (l := ms) (i := i) (by omega)
    obtain ⟨k, h2, hkm⟩ := at_lt (l := s.kids) (i := i) (by omega)
    rw [kts_get h1 h2] at ht
    simp only [Option.some.injEq] at ht
    subst ht
    obtain ⟨q1, q2⟩ := hm m hmm
    have hin : (if decide (s.op = 8) = true then Option.bind (Sh.get (consL n.decls s.num) i) fun c43 => Option.bind (spec_conFields N n.decls c43) fun q44 => Option.bind (spec_extend v q44) fun q45 => some q45 else some v) = some (v ++ m) := by
     rcases h with ⟨o1, o2⟩ | ⟨o1, o2⟩
     ·have : m = [] := by rw [o2] at hmm; simpa using hmm
      simp [o1, this]
     ·rw [o2] at h1
      rw [List.getElem?_map, Option.map_eq_some_iff] at h1
      obtain ⟨c, hc, rfl⟩ := h1
      simp only [o1, decide_true, if_true]
      rw [get_lt hc]
      simp only [Option.bind_some]
      rw [(fld_ok S (List.mem_of_getElem? hc) hN).1]
      simp only [Option.bind_some]
      unfold spec_extend spec_copyInts
      rw [app_ok [] v 8 (by simp; omega) (by simp; omega)]
      simp only [Option.bind_some, List.nil_append]
      rw [app_ok _ _ 8 (by omega) (by omega)]; rfl
    rw [spec_kidsType_L1, if_pos (by simp; omega), hin, get_lt h2]
    simp only [Option.bind_some]
    rw [(kid_ty H V hkm q1 q2).1, w_id (by omega) (by omega), show ((i : Int) + 1) = ((i + 1 : Nat) : Int) by omega]
    simp only [Option.bind_some]
    by_cases c1 : T (v ++ m) k < 0
    ·simp [c1]
    ·by_cases c2 : 0 < i
     ·by_cases c3 : T (v ++ m) k = r
      ·have c1' : ¬ r < 0 := c3 ▸ c1
       simp [c1', c2, c3]
      ·simp [c1, c2, c3]
     ·simp [c1, c2]
  ·have hl' : ¬ ((s.kids.length : Int) = (ms.length : Int)) := by omega
   have eg : (if ms = [] ∨ ¬ s.kids.length = ms.length then (-1 : Int) else oneM (kts T v ms s.kids)) = -1 := if_pos (.inr hl)
   rw [eg]
   simp [h0, h0', hl']
theorem arm_fields (S : NSig n) (hN : 2000000 ≤ N) (t : Int) : impl_signatures_armFields N (sgN n) t = some ((consL n.decls t).map (fld n.decls)) := by
 have hD := S.dlen
 have hn := S.nc
 have hcl := consL_len S.clen t
 unfold impl_signatures_armFields
 rw [show (sgN n).decls = n.decls from rfl, impl_consOf_eq (by omega) (by omega) hN]
 simp only [Option.bind_some]
 have hm : ∀ c ∈ consL n.decls t, impl_fieldsOf N n.decls c = some (fld n.decls c) := fun c hc => (fld_ok S hc hN).2.1
 generalize consL n.decls t = C at hcl hm
 have key : ∀ {M i : Nat}, i ≤ C.length → C.length - i < M → impl_signatures_armFields_L1 N (sgN n) C M i ((C.take i).map (fld n.decls)) = some (C.map (fld n.decls)) := by
  intro M i hi hM
  refine loop_ind C.length (fun M i => impl_signatures_armFields_L1 N (sgN n) C M i ((C.take i).map (fld n.decls)) = some (C.map (fld n.decls))) ?_ ?_ hi hM
  ·intro q; rw [impl_signatures_armFields_L1, if_neg (by simp [len_def]), List.take_length]
  ·intro q i hi ih
   obtain ⟨c, hc, hcm⟩ := at_lt hi
   rw [impl_signatures_armFields_L1, if_pos (by simp [len_def]; omega), get_lt hc]
   simp only [Option.bind_some]
   rw [show (sgN n).decls = n.decls from rfl, hm c hcm]
   simp only [Option.bind_some]
   rw [app_ok _ _ _ (by simp; omega) (by simp; omega), w_id (by omega) (by omega), show ((i : Int) + 1) = ((i + 1 : Nat) : Int) by omega]
   simp only [Option.bind_some]
   rw [← ih, take_snoc hc, List.map_append]; rfl
 have := key (Nat.zero_le _) (by omega : C.length - 0 < N)
 rw [show ((0 : Nat) : Int) = 0 from rfl, List.take_zero, List.map_nil] at this
 rw [this]; rfl
end
end RC



namespace RC
open Go
def spec_core (N : Nat) (rec_spec_blockType : RNormal → (List Int) → Block → Option (Int)) (p0 : RNormal) (p1 : (List Int)) (p2 : Step) : Option (Int) :=
 Sh.cont (
  if (decide (p2.op = 0)) = true then
   Option.bind (
    if (decide ((Sh.len p2.args) = 0)) = true then
     Option.bind (spec_inRange p2.num (-999) 999) fun q20 =>
     some q20
    else
     some false
   ) fun t15 =>
   if t15 = true then
    some (Sum.inl 0)
   else
    some (Sum.inr ())
  else
   Option.bind (
    if (decide (p2.op = 1)) = true then
     some true
    else
    if (decide (p2.op = 2)) = true then
     some true
    else
    if (decide (p2.op = 3)) = true then
     some true
    else
     some (decide (p2.op = 4))
   ) fun t22 =>
   if t22 = true then
    Option.bind (spec_typed N p1 p2.args [(0 : Int), 0]) fun q26 =>
    if q26 = true then
     some (Sum.inl 0)
    else
     some (Sum.inr ())
   else
   if (decide (p2.op = 5)) = true then
    Option.bind (spec_typed N p1 p2.args [(0 : Int)]) fun q32 =>
    if q32 = true then
     some (Sum.inl 0)
    else
     some (Sum.inr ())
   else
   if (decide (p2.op = 6)) = true then
    Option.bind (
     Option.bind (spec_conType N p0.decls p2.num) fun q43 =>
     if (decide (0 < q43)) = true then
      Option.bind (spec_conFields N p0.decls p2.num) fun q45 =>
      Option.bind (spec_typed N p1 p2.args q45) fun q46 =>
      some q46
     else
      some false
    ) fun t38 =>
    if t38 = true then
     Option.bind (spec_conType N p0.decls p2.num) fun q42 =>
     some (Sum.inl q42)
    else
     some (Sum.inr ())
   else
   if (decide (p2.op = 7)) = true then
    Option.bind (spec_typed N p1 p2.args [(0 : Int)]) fun q50 =>
    if q50 = true then
     Option.bind (spec_kidsType N rec_spec_blockType p0 p1 p2) fun q53 =>
     some (Sum.inl q53)
    else
     some (Sum.inr ())
   else
   if (decide (p2.op = 8)) = true then
    Option.bind (spec_typed N p1 p2.args [p2.num]) fun q57 =>
    if q57 = true then
     Option.bind (spec_kidsType N rec_spec_blockType p0 p1 p2) fun q60 =>
     some (Sum.inl q60)
    else
     some (Sum.inr ())
   else
    Option.bind (
     if (decide (p2.op = 9)) = true then
      some true
     else
      some (decide (p2.op = 10))
    ) fun t62 =>
    if t62 = true then
     Option.bind (spec_routineType N p0 p1 p2) fun q66 =>
     some (Sum.inl q66)
    else
    if (decide (p2.op = 11)) = true then
     Option.bind (
      if (decide ((Sh.len p2.args) = 2)) = true then
       Option.bind (Sh.get p2.args 0) fun c79 =>
       Option.bind (spec_inRange c79 0 (Sh.w ((Sh.len p1) - 1))) fun q80 =>
       if q80 = true then
        Option.bind (Sh.get p1 c79) fun c82 =>
        Option.bind (spec_isArrow p0.decls c82) fun q83 =>
        some q83
       else
        some false
      else
       some false
     ) fun t70 =>
     if t70 = true then
      Option.bind (Sh.get p2.args 0) fun c74 =>
      Option.bind (Sh.get p1 c74) fun c75 =>
      Option.bind (Sh.get p0.decls (Sh.w (c75 - 1))) fun c76 =>
      Option.bind (Sh.sl p2.args 1 (Sh.len p2.args)) fun l79 =>
      Option.bind (spec_typed N p1 l79 [c76.from_]) fun q80 =>
      if q80 = true then
       some (Sum.inl c76.to)
      else
       some (Sum.inr ())
     else
      some (Sum.inr ())
    else
     Option.bind (
      if (decide (p2.op = 14)) = true then
       some true
      else
      if (decide (p2.op = 15)) = true then
       some true
      else
      if (decide (p2.op = 16)) = true then
       some true
      else
       some (decide (p2.op = 17))
     ) fun t85 =>
     if t85 = true then
      Option.bind (spec_countingType p0 p1 p2) fun q89 =>
      some (Sum.inl q89)
     else
      some (Sum.inr ())
 ) (id) fun () =>
 some (-1)
def impl_core (N : Nat) (rec_impl_signatures_blockType : RSignatures → (List Int) → Block → Option (Int)) (p0 : RSignatures) (p1 : (List Int)) (p2 : Step) (l8 : List Int) : Option (Int × Bool) :=
 Option.bind (impl_isCounting p2.op) fun q18 =>
 if q18 = true then
  Option.bind (
   if (decide ((Sh.len l8) = 1)) = true then
    Option.bind (Sh.get l8 0) fun c38 =>
    if (!decide (c38 = 0)) = true then
     if (decide (p2.num = 0)) = true then
      some (decide ((Sh.len p2.kids) = 0))
     else
      some false
    else
     some false
   else
    some false
  ) fun ok21 =>
  Option.bind (
   Option.bind (
    if ok21 = true then
     if (decide (p2.op = 16)) = true then
      some true
     else
      some (decide (p2.op = 17))
    else
     some false
   ) fun t28 =>
   if t28 = true then
    Option.bind (Sh.get l8 0) fun c32 =>
    Option.bind (impl_arrowAt p0.decls c32) fun q33 =>
    some (!q33.2)
   else
    some ok21
  ) fun ok24 =>
  some (-1, ok24)
 else
 if (decide (p2.op = 7)) = true then
  Option.bind (
   if (!decide ((Sh.len l8) = 1)) = true then
    some true
   else
    Option.bind (Sh.get l8 0) fun c53 =>
    if (!decide (c53 = 0)) = true then
     some true
    else
    if (!decide (p2.num = 0)) = true then
     some true
    else
     some (!decide ((Sh.len p2.kids) = 2))
  ) fun t45 =>
  if t45 = true then
   some (-1, false)
  else
   Option.bind (Sh.mk [] 2 24) fun l50 =>
   Option.bind (impl_signatures_kidsType N rec_impl_signatures_blockType p0 p1 p2.kids l50) fun q51 =>
   some (q51.1, q51.2)
 else
 if (decide (p2.op = 8)) = true then
  Option.bind (impl_signatures_armFields N p0 p2.num) fun q59 =>
  Option.bind (
   if (!decide ((Sh.len l8) = 1)) = true then
    some true
   else
    Option.bind (Sh.get l8 0) fun c69 =>
    if (!decide (c69 = p2.num)) = true then
     some true
    else
    if (decide ((Sh.len q59) = 0)) = true then
     some true
    else
     some (!decide ((Sh.len p2.kids) = (Sh.len q59)))
  ) fun t62 =>
  if t62 = true then
   some (-1, false)
  else
   Option.bind (impl_signatures_kidsType N rec_impl_signatures_blockType p0 p1 p2.kids q59) fun q67 =>
   some (q67.1, q67.2)
 else
  Option.bind (
   if (decide (0 < (Sh.len p2.kids))) = true then
    some true
   else
   if (decide (p2.op = 10)) = true then
    if (decide (0 ≤ p2.num)) = true then
     if (decide (p2.num < (Sh.len p0.funcs))) = true then
      Option.bind (Sh.get p0.funcs p2.num) fun c83 =>
      some (decide (0 < (Sh.len c83.lent)))
     else
      some false
    else
     some false
   else
    some false
  ) fun t73 =>
  if t73 = true then
   some (-1, false)
  else
   Option.bind (impl_signatures_simpleType N p0 p2.op p2.num l8) fun q78 =>
   some (q78.1, q78.2)
def impl_into (p1 : (List Int)) (p2 : Step) : Option Bool :=
  if (!decide (p2.into = 0)) = true then
   if (!decide (p2.op = 6)) = true then
    some true
   else
   if (decide (p2.into < 1)) = true then
    some true
   else
   if (decide ((Sh.len p1) < p2.into)) = true then
    some true
   else
    Option.bind (Sh.get p1 (Sh.w (p2.into - 1))) fun c88 =>
    some (decide (c88 = 0))
  else
   some false
section
variable {n : RNormal} {R1 : RNormal → List Int → Block → Option Int} {R2 : RSignatures → List Int → Block → Option Int} {T : List Int → Block → Int} {s : Step} {v : List Int} {N : Nat}
theorem into_both (hv : ∀ x ∈ v, tyB n.decls x = true) (hl : v.length ≤ 1048576) : ∃ b, spec_validInto v s = some b ∧ impl_into v s = some (!b) := by
 unfold spec_validInto impl_into
 by_cases h0 : s.into = 0
 ·exact ⟨true, by simp [h0], by simp [h0]⟩
 ·by_cases h6 : s.op = 6
  ·by_cases hr : 1 ≤ s.into ∧ s.into ≤ (v.length : Int)
   ·have hw : Sh.w (s.into - 1) = s.into - 1 := w_id (by omega) (by omega)
    obtain ⟨x, x1, x2⟩ := get_pos (l := v) (j := s.into - 1) (by omega) (by omega)
    have hx := (tyB_nn (hv x (List.mem_of_getElem? x2))).1
    have r1 : ¬ s.into < 1 := by omega
    have r2 : ¬ (v.length : Int) < s.into := by omega
    rw [inRange_eq, hw, x1, len_def]
    by_cases q : x = 0
    ·exact ⟨false, by simp [h0, h6, hr.1, hr.2, q], by simp [h0, h6, r1, r2, q]⟩
    ·have q' : 0 < x := by omega
     exact ⟨true, by simp [h0, h6, hr.1, hr.2, q'], by simp [h0, h6, r1, r2, q]⟩
   ·refine ⟨false, ?_, ?_⟩
    ·rw [inRange_eq, len_def]
     have : (decide (1 ≤ s.into) && decide (s.into ≤ (v.length : Int))) = false := by
      rw [Bool.and_eq_false_iff, decide_eq_false_iff_not, decide_eq_false_iff_not]; omega
     rw [this]; simp [h0, h6]
    ·rw [len_def]
     by_cases r1 : s.into < 1
     ·simp [h0, h6, r1]
     ·have r2 : (v.length : Int) < s.into := by omega
      simp [h0, h6, r1, r2]
  ·exact ⟨false, by simp [h0, h6], by simp [h0, h6]⟩
def hasN (o : Int) : Bool := decide (o = 0 ∨ o = 6 ∨ o = 8 ∨ o = 9 ∨ o = 10)
theorem hasNum_eq (o : Int) : spec_hasNum o = some (hasN o) := by
 unfold spec_hasNum hasN
 by_cases h0 : o = 0
 ·simp [h0]
 by_cases h6 : o = 6
 ·simp [h6]
 by_cases h8 : o = 8
 ·simp [h8]
 by_cases h9 : o = 9
 ·simp [h9]
 simp [h0, h6, h8, h9]
def preNB (b : Bool) (s : Step) : Bool := ((decide (s.num = 0) || hasN s.op) && b) && (decide (s.kids = []) || (decide (s.op = 7) || decide (s.op = 8)))
theorem spec_preN {b : Bool} (hb : spec_validInto v s = some b) : spec_stepType N R1 n v s = if preNB b s = true then spec_core N R1 n v s else some (-1) := by
 have e : spec_stepType N R1 n v s = Option.bind (
  if (!decide (s.num = 0)) = true then
   Option.bind (spec_hasNum s.op) fun q105 =>
   if (!q105) = true then some true
   else Option.bind (spec_validInto v s) fun q107 => if (!q107) = true then some true else if (decide (0 < (Sh.len s.kids))) = true then (if (!decide (s.op = 7)) = true then some (!decide (s.op = 8)) else some false) else some false
  else Option.bind (spec_validInto v s) fun q111 => if (!q111) = true then some true else if (decide (0 < (Sh.len s.kids))) = true then (if (!decide (s.op = 7)) = true then some (!decide (s.op = 8)) else some false) else some false) fun t4 => if t4 = true then some (-1) else spec_core N R1 n v s := rfl
 rw [e, hasNum_eq, hb]
 have hk : (if (decide (0 < (Sh.len s.kids))) = true then (if (!decide (s.op = 7)) = true then some (!decide (s.op = 8)) else some false) else some false) = some (!(decide (s.kids = []) || (decide (s.op = 7) || decide (s.op = 8)))) := by
  cases hk : s.kids with
  | nil => simp [len_def]
  | cons a r =>
   have : decide ((0 : Int) < Sh.len (a :: r)) = true := decide_eq_true (by rw [len_def, List.length_cons]; omega)
   rw [this]
   by_cases h7 : s.op = 7
   ·simp [h7]
   ·simp [h7]
 simp only [Option.bind_some]
 rw [hk]
 unfold preNB
 cases decide (s.num = 0) <;> cases hasN s.op <;> cases b <;> cases (decide (s.kids = []) || (decide (s.op = 7) || decide (s.op = 8))) <;> simp
theorem impl_preN (hl : v.length ≤ 1048576) (ha : s.args.length ≤ 1048576) (hN : 2000000 ≤ N) {b : Bool} (hb : impl_into v s = some (!b)) :
  impl_signatures_stepType N R2 (sgN n) v s = (argT v s.args).elim (some (-1, false)) fun l => if b = true then impl_core N R2 (sgN n) v s l else some (-1, false) := by
 have e : impl_signatures_stepType N R2 (sgN n) v s = Option.bind (Sh.mk (0 : Nat) (Sh.len s.args) 8) fun l3 => Sh.cont (impl_signatures_stepType_L1 v s N 0 []) (id) fun l8 => Option.bind (impl_into v s) fun t12 => if t12 = true then some (-1, false) else impl_core N R2 (sgN n) v s l8 := rfl
 rw [e, len_def, mk_ok _ _ _ (by omega) (by omega), args_loop hl ha hN, hb]
 cases argT v s.args with
 | none => rfl
 | some l => cases b <;> simp [Sh.cont]
def SBoth (n : RNormal) (R1 : RNormal → List Int → Block → Option Int) (R2 : RSignatures → List Int → Block → Option Int) (N : Nat) (v : List Int) (s : Step) : Prop :=
 ∃ (q t : Int) (ok : Bool), spec_stepType N R1 n v s = some q ∧ impl_signatures_stepType N R2 (sgN n) v s = some (t, ok) ∧ (if ok = true then 0 ≤ q ∧ (if ctg s.op = true then True else t = q ∧ tyB n.decls q = true ∧ 0 ≤ s.op ∧ s.op ≤ 11) else q < 0)
theorem sb_bad {q t : Int} {ok : Bool} (h1 : spec_stepType N R1 n v s = some q) (h2 : impl_signatures_stepType N R2 (sgN n) v s = some (t, ok)) (h3 : ok = false) (h4 : q < 0) : SBoth n R1 R2 N v s := ⟨q, t, ok, h1, h2, by rw [h3]; exact h4⟩
theorem sb_ok {q : Int} (h1 : spec_stepType N R1 n v s = some q) (h2 : impl_signatures_stepType N R2 (sgN n) v s = some (q, true)) (h3 : tyB n.decls q = true) (h4 : 0 ≤ s.op) (h5 : s.op ≤ 11) : SBoth n R1 R2 N v s :=
 ⟨q, q, true, h1, h2, by
  have : ctg s.op = false := by unfold ctg; rw [Bool.and_eq_false_iff, decide_eq_false_iff_not, decide_eq_false_iff_not]; omega
  rw [if_pos rfl, if_neg (by rw [this]; simp)]
  exact ⟨(tyB_nn h3).1, rfl, h3, h4, h5⟩⟩
theorem sb_want (V : SK n s v) (hN : 2000000 ≤ N) {b : Bool} (hb1 : spec_validInto v s = some b) (hb2 : impl_into v s = some (!b)) (h0 : 0 ≤ s.op) (h5 : s.op ≤ 11) {want : List Int} {c : Bool} {t : Int} (ht : c = true → tyB n.decls t = true)
  (hs : preNB b s = true → spec_core N R1 n v s = some (if c = true ∧ argT v s.args = some want then t else -1))
  (hi : ∀ l, argT v s.args = some l → preNB b s = true → ∃ t', impl_core N R2 (sgN n) v s l = some (t', c && decide (l = want)) ∧ (c = true → l = want → t' = t))
  (hi2 : ∀ l, argT v s.args = some l → preNB b s = false → b = true → ∃ t', impl_core N R2 (sgN n) v s l = some (t', false)) : SBoth n R1 R2 N v s := by
 have hl : v.length ≤ 1048576 := by have := V.vlen; omega
 have e1 := spec_preN (n := n) (R1 := R1) (N := N) hb1
 have e2 := impl_preN (n := n) (R2 := R2) hl V.alen hN hb2
 cases hA : argT v s.args with
 | none =>
  rw [hA] at e2 hs
  refine sb_bad (q := -1) ?_ e2 rfl (by omega)
  rw [e1]
  by_cases hp : preNB b s = true
  ·rw [if_pos hp, hs hp]; simp
  ·rw [if_neg hp]
 | some l =>
  rw [hA] at e2 hs
  simp only [Option.elim_some] at e2
  cases hp : preNB b s with
  | false =>
   rw [hp] at e1
   simp only [Bool.false_eq_true, if_false] at e1
   cases b with
   | false => exact sb_bad e1 e2 rfl (by omega)
   | true =>
    obtain ⟨t', h7⟩ := hi2 l hA hp rfl
    simp only [if_true] at e2
    exact sb_bad e1 (e2.trans h7) rfl (by omega)
  | true =>
   rw [hp] at e1
   simp only [if_true] at e1
   have hbt : b = true := by
    unfold preNB at hp
    simp only [Bool.and_eq_true] at hp
    exact hp.1.2
   rw [hbt] at e2
   simp only [if_true] at e2
   obtain ⟨t', h7, h8⟩ := hi l hA hp
   by_cases hc : c = true ∧ l = want
   ·have ht' := h8 hc.1 hc.2
    rw [hs hp, if_pos ⟨hc.1, by rw [hc.2]⟩] at e1
    rw [h7, ht', hc.1, hc.2] at e2
    simp only [decide_true, Bool.and_self] at e2
    exact sb_ok e1 e2 (ht hc.1) h0 h5
   ·rw [hs hp, if_neg (by rintro ⟨q1, q2⟩; exact hc ⟨q1, by simpa using q2⟩)] at e1
    refine sb_bad e1 (e2.trans h7) ?_ (by omega)
    cases c with
    | false => rfl
    | true => simp only [true_and] at hc; simp [hc]
end
end RC



namespace RC
open Go
section
variable {n : RNormal} {R1 : RNormal → List Int → Block → Option Int} {R2 : RSignatures → List Int → Block → Option Int} {T : List Int → Block → Int} {s : Step} {v : List Int} {N : Nat} {b : Bool}
theorem argT_len {v args l : List Int} (h : argT v args = some l) : l.length = args.length := (argT_iff.1 h).1.symm
theorem nctg (h0 : 0 ≤ s.op) (h5 : s.op ≤ 11) : impl_isCounting s.op = some false := by
 rw [ctg_impl]
 have : ctg s.op = false := by unfold ctg; rw [Bool.and_eq_false_iff, decide_eq_false_iff_not, decide_eq_false_iff_not]; omega
 rw [this]
theorem core_simple {l : List Int} {t : Int} {ok : Bool} (h0 : 0 ≤ s.op) (h5 : s.op ≤ 11) (h7 : ¬ s.op = 7) (h8 : ¬ s.op = 8) (h10 : ¬ s.op = 10) (hk : s.kids = []) (hs : impl_signatures_simpleType N (sgN n) s.op s.num l = some (t, ok)) : impl_core N R2 (sgN n) v s l = some (t, ok) := by
 unfold impl_core
 rw [nctg h0 h5]
 simp only [Option.bind_some, Bool.false_eq_true, if_false, h7, h8, h10, decide_false]
 rw [hs, hk]
 simp [len_def]
theorem core_kids {l : List Int} (h0 : 0 ≤ s.op) (h5 : s.op ≤ 11) (h7 : ¬ s.op = 7) (h8 : ¬ s.op = 8) (hk : ¬ s.kids = []) : impl_core N R2 (sgN n) v s l = some (-1, false) := by
 unfold impl_core
 rw [nctg h0 h5]
 have : decide ((0 : Int) < Sh.len s.kids) = true := by
  cases hq : s.kids with
  | nil => exact absurd hq hk
  | cons a r => exact decide_eq_true (by rw [len_def, List.length_cons]; omega)
 simp only [Option.bind_some, Bool.false_eq_true, if_false, h7, h8, decide_false, this, if_true]
theorem pre_kids (h7 : ¬ s.op = 7) (h8 : ¬ s.op = 8) (hp : preNB b s = true) : s.kids = [] := by
 unfold preNB at hp
 simp only [Bool.and_eq_true, Bool.or_eq_true, decide_eq_true_eq, h7, h8, or_false] at hp
 exact hp.2
theorem pre_bad (h7 : ¬ s.op = 7) (h8 : ¬ s.op = 8) (hp : preNB b s = false) (hb : b = true) : ¬ s.kids = [] ∨ (¬ s.num = 0 ∧ hasN s.op = false) := by
 by_cases hk : s.kids = []
 ·right
  unfold preNB at hp
  simp only [hb, hk, decide_true, Bool.and_true, Bool.true_or, Bool.or_eq_false_iff, decide_eq_false_iff_not] at hp
  exact hp
 ·exact .inl hk
theorem pre_num (hn : hasN s.op = false) (hp : preNB b s = true) : s.num = 0 := by
 unfold preNB at hp
 simp only [Bool.and_eq_true, Bool.or_eq_true, decide_eq_true_eq, hn, Bool.false_eq_true, or_false] at hp
 exact hp.1.1
theorem st_int (V : SK n s v) (hN : 2000000 ≤ N) (hb1 : spec_validInto v s = some b) (hb2 : impl_into v s = some (!b)) (h : s.op = 0) : SBoth n R1 R2 N v s := by
 have ha := V.alen
 refine sb_want V hN hb1 hb2 (by omega) (by omega) (want := []) (c := decide (-999 ≤ s.num) && decide (s.num ≤ 999)) (t := 0) (fun _ => ty0) (fun hp => ?_) (fun l hA hp => ⟨0, ?_, fun _ _ => rfl⟩) (fun l hA hp hb => ?_)
 ·have e1 : (argT v s.args = some []) ↔ s.args = [] := by
   constructor
   ·intro q; exact List.eq_nil_of_length_eq_zero (argT_len q).symm
   ·intro q; rw [q]; rfl
  unfold spec_core
  simp only [h, decide_true, if_true, len_nil, inRange_eq, e1]
  by_cases a : -999 ≤ s.num <;> by_cases c : s.num ≤ 999 <;> by_cases d : s.args = [] <;> simp [a, c, d, Sh.cont]
 ·exact core_simple (by omega) (by omega) (by omega) (by omega) (by omega) (pre_kids (by omega) (by omega) hp) (simp_int h)
 ·rcases pre_bad (by omega) (by omega) hp hb with q | q
  ·exact ⟨_, core_kids (by omega) (by omega) (by omega) (by omega) q⟩
  ·rw [h] at q; exact absurd q.2 (by decide)
theorem st_arith (V : SK n s v) (hN : 2000000 ≤ N) (hb1 : spec_validInto v s = some b) (hb2 : impl_into v s = some (!b)) (h : s.op = 1 ∨ s.op = 2 ∨ s.op = 3 ∨ s.op = 4) : SBoth n R1 R2 N v s := by
 have ha := V.alen
 have hvl := V.vlen
 have hh : hasN s.op = false := by rcases h with h | h | h | h <;> rw [h] <;> decide
 refine sb_want V hN hb1 hb2 (by omega) (by omega) (want := [0, 0]) (c := decide (s.num = 0)) (t := 0) (fun _ => ty0) (fun hp => ?_) (fun l hA hp => ⟨0, ?_, fun _ _ => rfl⟩) (fun l hA hp hb => ?_)
 ·have hn := pre_num hh hp
  have e2 : spec_typed N v s.args [0, 0] = some (decide (argT v s.args = some [0, 0])) := typed_eq (by omega) ha hN
  unfold spec_core
  rcases h with h | h | h | h <;> simp only [h, Int.reduceEq, decide_true, decide_false, Bool.false_eq_true, if_true, if_false, Option.bind_some] <;> rw [e2] <;> by_cases q : argT v s.args = some [0, 0] <;> simp [q, hn, Sh.cont]
 ·have hl := argT_len hA
  exact core_simple (by omega) (by omega) (by omega) (by omega) (by omega) (pre_kids (by omega) (by omega) hp) (simp_arith (by omega) hN h)
 ·have hl := argT_len hA
  by_cases hk : s.kids = []
  ·rcases pre_bad (by omega) (by omega) hp hb with q | q
   ·exact absurd hk q
   ·exact ⟨0, core_simple (by omega) (by omega) (by omega) (by omega) (by omega) hk (by rw [show (sgN n) = ⟨n.decls, (sgN n).funcs⟩ from rfl, simp_arith (by omega) hN h]; simp [q.1])⟩
  ·exact ⟨_, core_kids (by omega) (by omega) (by omega) (by omega) hk⟩
theorem st_print (V : SK n s v) (hN : 2000000 ≤ N) (hb1 : spec_validInto v s = some b) (hb2 : impl_into v s = some (!b)) (h : s.op = 5) : SBoth n R1 R2 N v s := by
 have ha := V.alen
 have hvl := V.vlen
 have hh : hasN s.op = false := by rw [h]; decide
 refine sb_want V hN hb1 hb2 (by omega) (by omega) (want := [0]) (c := decide (s.num = 0)) (t := 0) (fun _ => ty0) (fun hp => ?_) (fun l hA hp => ⟨0, ?_, fun _ _ => rfl⟩) (fun l hA hp hb => ?_)
 ·have hn := pre_num hh hp
  have e2 : spec_typed N v s.args [0] = some (decide (argT v s.args = some [0])) := typed_eq (by omega) ha hN
  unfold spec_core
  simp only [h, Int.reduceEq, decide_true, decide_false, Bool.false_eq_true, if_true, if_false, Option.bind_some]
  rw [e2]
  by_cases q : argT v s.args = some [0] <;> simp [q, hn, Sh.cont]
 ·have hl := argT_len hA
  exact core_simple (by omega) (by omega) (by omega) (by omega) (by omega) (pre_kids (by omega) (by omega) hp) (simp_print (by omega) hN h)
 ·have hl := argT_len hA
  by_cases hk : s.kids = []
  ·rcases pre_bad (by omega) (by omega) hp hb with q | q
   ·exact absurd hk q
   ·exact ⟨0, core_simple (by omega) (by omega) (by omega) (by omega) (by omega) hk (by rw [show (sgN n) = ⟨n.decls, (sgN n).funcs⟩ from rfl, simp_print (by omega) hN h]; simp [q.1])⟩
  ·exact ⟨_, core_kids (by omega) (by omega) (by omega) (by omega) hk⟩
theorem i64_num (h : StepIn s) : I64 s.num := by cases h; assumption
theorem st_con (V : SK n s v) (S : NSig n) (hN : 2000000 ≤ N) (hb1 : spec_validInto v s = some b) (hb2 : impl_into v s = some (!b)) (h : s.op = 6) : SBoth n R1 R2 N v s := by
 have ha := V.alen
 have hvl := V.vlen
 have hI := i64_num V.inn
 have hbad : ∀ l, argT v s.args = some l → preNB b s = false → b = true → ∃ t', impl_core N R2 (sgN n) v s l = some (t', false) := fun l hA hp hb => by
  rcases pre_bad (by omega) (by omega) hp hb with q | q
  ·exact ⟨_, core_kids (by omega) (by omega) (by omega) (by omega) q⟩
  ·rw [h] at q; exact absurd q.2 (by decide)
 have hcase : (∃ t x, 0 < t ∧ tyB n.decls t = true ∧ spec_conType N n.decls s.num = some t ∧ spec_conFields N n.decls s.num = some x) ∨ spec_conType N n.decls s.num = some (-1) := by
  rcases simp_con (G := (sgN n).funcs) (ks := []) S (by simp) hI hN h with ⟨t, x, q1, q2, q3, q4, q5, q6⟩ | ⟨q1, q2⟩
  ·exact .inl ⟨t, x, q1, q2, q4, q5⟩
  ·exact .inr q1
 rcases hcase with ⟨t, x, q1, q2, q4, q5⟩ | q1
 ·refine sb_want V hN hb1 hb2 (by omega) (by omega) (want := x) (c := true) (t := t) (fun _ => q2) (fun hp => ?_) (fun l hA hp => ⟨t, ?_, fun _ _ => rfl⟩) hbad
  ·have e2 : spec_typed N v s.args x = some (decide (argT v s.args = some x)) := typed_eq (by omega) ha hN
   unfold spec_core
   simp only [h, Int.reduceEq, decide_true, decide_false, Bool.false_eq_true, if_true, if_false, Option.bind_some]
   rw [q4, q5]
   simp only [Option.bind_some]
   rw [e2]
   by_cases q : argT v s.args = some x <;> simp [q, q1, Sh.cont]
  ·have hl := argT_len hA
   refine core_simple (by omega) (by omega) (by omega) (by omega) (by omega) (pre_kids (by omega) (by omega) hp) ?_
   rcases simp_con (G := (sgN n).funcs) (ks := l) S (by omega) hI hN h with ⟨t', x', p1, p2, p3, p4, p5, p6⟩ | ⟨p1, p2⟩
   ·rw [q4] at p4; rw [q5] at p5
    cases p4; cases p5
    rw [Bool.true_and]; exact p6
   ·rw [q4] at p1; cases p1; omega
 ·refine sb_want V hN hb1 hb2 (by omega) (by omega) (want := []) (c := false) (t := 0) (fun q => nomatch q) (fun hp => ?_) (fun l hA hp => ⟨-1, ?_, fun q => nomatch q⟩) hbad
  ·unfold spec_core
   simp only [h, Int.reduceEq, decide_true, decide_false, Bool.false_eq_true, if_true, if_false, Option.bind_some]
   rw [q1]
   simp [Sh.cont]
  ·have hl := argT_len hA
   refine core_simple (by omega) (by omega) (by omega) (by omega) (by omega) (pre_kids (by omega) (by omega) hp) ?_
   rcases simp_con (G := (sgN n).funcs) (ks := l) S (by omega) hI hN h with ⟨t', x', p1, p2, p3, p4, p5, p6⟩ | ⟨p1, p2⟩
   ·rw [q1] at p4; cases p4; omega
   ·rw [Bool.false_and]; exact p2
end
end RC



namespace RC
open Go
section
variable {n : RNormal} {R1 : RNormal → List Int → Block → Option Int} {R2 : RSignatures → List Int → Block → Option Int} {T : List Int → Block → Int} {s : Step} {v : List Int} {N : Nat} {b : Bool}
theorem nil_ms2 : ∀ m ∈ ([[], []] : List (List Int)), m.length ≤ 3 ∧ ∀ x ∈ m, tyB n.decls x = true := fun m hm => by
 simp at hm; subst hm; simp
theorem sb_one {o : Int} (h0 : 0 ≤ s.op) (h5 : s.op ≤ 11) (ho : o = -1 ∨ tyB n.decls o = true) (h1 : spec_stepType N R1 n v s = some o) (h2 : impl_signatures_stepType N R2 (sgN n) v s = some (if o < 0 then (-1, false) else (o, true))) : SBoth n R1 R2 N v s := by
 by_cases h : o < 0
 ·rw [if_pos h] at h2
  exact sb_bad h1 h2 rfl h
 ·rw [if_neg h] at h2
  refine sb_ok h1 h2 ?_ h0 h5
  rcases ho with q | q
  ·omega
  ·exact q
theorem one_ty (H : NOK n R1 R2 T (nss s)) (V : SK n s v) {ms : List (List Int)} (hm : ∀ m ∈ ms, m.length ≤ 3 ∧ ∀ x ∈ m, tyB n.decls x = true) : oneM (kts T v ms s.kids) = -1 ∨ tyB n.decls (oneM (kts T v ms s.kids)) = true := by
 rcases oneM_mem (ts := kts T v ms s.kids) with z | z
 ·exact .inl z
 ·exact kts_ty H V hm _ z
theorem st_if (H : NOK n R1 R2 T (nss s)) (V : SK n s v) (S : NSig n) (hN : 2000000 ≤ N) (hb1 : spec_validInto v s = some b) (hb2 : impl_into v s = some (!b)) (h : s.op = 7) : SBoth n R1 R2 N v s := by
 have hl : v.length ≤ 1048576 := by have := V.vlen; omega
 have e1 := spec_preN (n := n) (R1 := R1) (N := N) hb1
 have e2 := impl_preN (n := n) (R2 := R2) hl V.alen hN hb2
 have ht : spec_typed N v s.args [0] = some (decide (argT v s.args = some [0])) := typed_eq hl V.alen hN
 have hp : preNB b s = (decide (s.num = 0) && b) := by
  unfold preNB
  rw [h, show hasN 7 = false by decide]
  simp
 have hcore : spec_core N R1 n v s = some (if argT v s.args = some [0] then (if s.kids.length = 2 then oneM (kts T v [[], []] s.kids) else -1) else -1) := by
  unfold spec_core
  simp only [h, Int.reduceEq, decide_true, decide_false, Bool.false_eq_true, if_true, if_false, Option.bind_some]
  rw [ht, spec_kids H V S hN (.inl ⟨h, rfl⟩)]
  by_cases q : argT v s.args = some [0]
  ·by_cases q2 : s.kids.length = 2 <;> simp [q, q2, Sh.cont]
  ·simp [q, Sh.cont]
 rw [hp, hcore] at e1
 cases hA : argT v s.args with
 | none =>
  rw [hA] at e1 e2
  refine sb_bad (q := -1) ?_ e2 rfl (by omega)
  rw [e1]; simp
 | some l =>
  rw [hA] at e1 e2
  simp only [Option.elim_some] at e2
  have ilen : decide (Sh.len l = 1) = decide (l.length = 1) := decide_eq_decide.2 (by rw [len_def]; omega)
  cases b with
  | false =>
   refine sb_bad (q := -1) ?_ e2 rfl (by omega)
   rw [e1]; simp
  | true =>
   simp only [if_true] at e2
   have hc : impl_core N R2 (sgN n) v s l = if l = [0] ∧ s.num = 0 ∧ s.kids.length = 2 then some (if oneM (kts T v [[], []] s.kids) < 0 then (-1, false) else (oneM (kts T v [[], []] s.kids), true)) else some (-1, false) := by
    unfold impl_core
    rw [nctg (by omega) (by omega), ilen]
    simp only [Option.bind_some, Bool.false_eq_true, if_false, h, decide_true, if_true]
    match l with
    | [] => simp
    | [x] =>
     have klen : decide (Sh.len s.kids = 2) = decide (s.kids.length = 2) := decide_eq_decide.2 (by rw [len_def]; omega)
     rw [show Sh.get [x] 0 = some x from rfl, klen]
     simp only [Option.bind_some]
     by_cases q1 : x = 0
     ·by_cases q2 : s.num = 0
      ·by_cases q3 : s.kids.length = 2
       ·have mk2 : Sh.mk ([] : List Int) 2 24 = some [[], []] := mk_ok [] 2 24 (by omega) (by omega)
        rw [mk2]
        have ik := impl_kids (ms := [[], []]) H V hN (by rw [q3]; rfl) (by simp) (by simp) nil_ms2
        simp only [Option.bind_some]
        rw [ik]
        by_cases z : oneM (kts T v [[], []] s.kids) < 0 <;> simp [q1, q2, q3, z]
       ·simp [q1, q2, q3]
      ·simp [q1, q2]
     ·simp [q1]
    | x :: y :: r => simp
   rw [hc] at e2
   by_cases q : l = [0] ∧ s.num = 0 ∧ s.kids.length = 2
   ·rw [if_pos q] at e2
    refine sb_one (by omega) (by omega) (one_ty H V nil_ms2) ?_ e2
    rw [e1]; simp [q.1, q.2.1, q.2.2]
   ·rw [if_neg q] at e2
    refine sb_bad (q := -1) ?_ e2 rfl (by omega)
    rw [e1]
    by_cases q1 : s.num = 0
    ·by_cases q2 : l = [0]
     ·have q3 : ¬ s.kids.length = 2 := fun z => q ⟨q2, q1, z⟩
      simp [q1, q2, q3]
     ·simp [q1, q2]
    ·simp [q1]
theorem st_match (H : NOK n R1 R2 T (nss s)) (V : SK n s v) (S : NSig n) (hN : 2000000 ≤ N) (hb1 : spec_validInto v s = some b) (hb2 : impl_into v s = some (!b)) (h : s.op = 8) : SBoth n R1 R2 N v s := by
 have hl : v.length ≤ 1048576 := by have := V.vlen; omega
 have e1 := spec_preN (n := n) (R1 := R1) (N := N) hb1
 have e2 := impl_preN (n := n) (R2 := R2) hl V.alen hN hb2
 have ht : spec_typed N v s.args [s.num] = some (decide (argT v s.args = some [s.num])) := typed_eq hl V.alen hN
 have hp : preNB b s = b := by
  unfold preNB
  rw [h, show hasN 8 = true by decide]
  simp
 have hcl := consL_len S.clen s.num
 have hm : ∀ m ∈ (consL n.decls s.num).map (fld n.decls), m.length ≤ 3 ∧ ∀ x ∈ m, tyB n.decls x = true := fun m hm => by
  obtain ⟨c, hc, rfl⟩ := List.mem_map.1 hm
  exact (fld_ok S hc hN).2.2
 have sk := spec_kids H V S hN (.inr ⟨h, rfl⟩)
 have af := arm_fields (n := n) S hN s.num
 have hml : ((consL n.decls s.num).map (fld n.decls)).length ≤ 10 := by simp; omega
 generalize (consL n.decls s.num).map (fld n.decls) = ms at hm sk af hml
 have hcore : spec_core N R1 n v s = some (if argT v s.args = some [s.num] then (if ms = [] ∨ ¬ s.kids.length = ms.length then -1 else oneM (kts T v ms s.kids)) else -1) := by
  unfold spec_core
  simp only [h, Int.reduceEq, decide_true, decide_false, Bool.false_eq_true, if_true, if_false, Option.bind_some]
  rw [ht, sk]
  by_cases q : argT v s.args = some [s.num] <;> simp [q, Sh.cont]
 rw [hp, hcore] at e1
 cases hA : argT v s.args with
 | none =>
  rw [hA] at e1 e2
  refine sb_bad (q := -1) ?_ e2 rfl (by omega)
  rw [e1]; simp
 | some l =>
  rw [hA] at e1 e2
  simp only [Option.elim_some] at e2
  have ilen : decide (Sh.len l = 1) = decide (l.length = 1) := decide_eq_decide.2 (by rw [len_def]; omega)
  cases b with
  | false =>
   refine sb_bad (q := -1) ?_ e2 rfl (by omega)
   rw [e1]; simp
  | true =>
   simp only [if_true] at e1 e2
   have hc : impl_core N R2 (sgN n) v s l = if l = [s.num] ∧ ¬ ms = [] ∧ s.kids.length = ms.length then some (if oneM (kts T v ms s.kids) < 0 then (-1, false) else (oneM (kts T v ms s.kids), true)) else some (-1, false) := by
    unfold impl_core
    rw [nctg (by omega) (by omega), ilen, af]
    simp only [Option.bind_some, Bool.false_eq_true, if_false, h, Int.reduceEq, decide_false, decide_true, if_true, len_nil]
    match l with
    | [] => simp
    | [x] =>
     have klen : decide (Sh.len s.kids = Sh.len ms) = decide (s.kids.length = ms.length) := decide_eq_decide.2 (by rw [len_def, len_def]; omega)
     rw [show Sh.get [x] 0 = some x from rfl, klen]
     simp only [Option.bind_some]
     by_cases q1 : x = s.num
     ·by_cases q2 : ms = []
      ·simp [q1, q2]
      ·by_cases q3 : s.kids.length = ms.length
       ·have ik := impl_kids (ms := ms) H V hN q3.symm q2 hml hm
        rw [ik]
        by_cases z : oneM (kts T v ms s.kids) < 0 <;> simp [q1, q2, q3, z]
       ·simp [q1, q2, q3]
     ·simp [q1]
    | x :: y :: r => simp
   rw [hc] at e2
   by_cases q : l = [s.num] ∧ ¬ ms = [] ∧ s.kids.length = ms.length
   ·rw [if_pos q] at e2
    refine sb_one (by omega) (by omega) (one_ty H V hm) ?_ e2
    rw [e1]; simp [q.1, q.2.1, q.2.2]
   ·rw [if_neg q] at e2
    refine sb_bad (q := -1) ?_ e2 rfl (by omega)
    rw [e1]
    by_cases q2 : l = [s.num]
    ·have q3 : ms = [] ∨ ¬ s.kids.length = ms.length := by
      by_cases z : ms = []
      ·exact .inl z
      ·exact .inr fun y => q ⟨q2, z, y⟩
     rw [if_pos (by rw [q2]), if_pos q3]
    ·rw [if_neg (by simpa using q2)]
theorem hbad_has (hh : hasN s.op = true) (h0 : 0 ≤ s.op) (h5 : s.op ≤ 11) (h7 : ¬ s.op = 7) (h8 : ¬ s.op = 8) : ∀ l, argT v s.args = some l → preNB b s = false → b = true → ∃ t', impl_core N R2 (sgN n) v s l = some (t', false) := fun l _ hp hb => by
 rcases pre_bad h7 h8 hp hb with q | q
 ·exact ⟨_, core_kids h0 h5 h7 h8 q⟩
 ·rw [hh] at q; exact absurd q.2 (by decide)
theorem st_call (V : SK n s v) (S : NSig n) (hN : 2000000 ≤ N) (hb1 : spec_validInto v s = some b) (hb2 : impl_into v s = some (!b)) (h : s.op = 9) : SBoth n R1 R2 N v s := by
 have hl : v.length ≤ 1048576 := by have := V.vlen; omega
 have ha := V.alen
 have hR := S.rlen
 have hG : (sgN n).funcs.length ≤ 4 := by rw [sgN_len]; exact hR
 have hbad := hbad_has (n := n) (R2 := R2) (N := N) (v := v) (b := b) (s := s) (by rw [h]; decide) (by omega) (by omega) (by omega) (by omega)
 rcases rout_at S s.num with ⟨r, r0, r1, r2, r3, r4, r5, r6⟩ | hr
 ·refine sb_want V hN hb1 hb2 (by omega) (by omega) (want := r.params) (c := true) (t := r.result) (fun _ => r6) (fun hp => ?_) (fun l hA hp => ⟨r.result, ?_, fun _ _ => rfl⟩) hbad
  ·have ht : spec_typed N v s.args r.params = some (decide (argT v s.args = some r.params)) := typed_eq hl ha hN
   have r1' : s.num ≤ (n.routines.length : Int) - 1 := by omega
   unfold spec_core spec_routineType
   simp only [h, Int.reduceEq, decide_true, decide_false, Bool.false_eq_true, if_true, if_false, Option.bind_some]
   rw [inRange_eq, len_def n.routines, w_id (n := (n.routines.length : Int) - 1) (by omega) (by omega), r2]
   simp only [Option.bind_some, r0, r1', decide_true, Bool.and_self, Bool.not_true, Bool.false_eq_true, if_false]
   rw [ht]
   by_cases q : argT v s.args = some r.params <;> simp [q, Sh.cont]
  ·have hl2 := argT_len hA
   refine core_simple (by omega) (by omega) (by omega) (by omega) (by omega) (pre_kids (by omega) (by omega) hp) ?_
   rw [Bool.true_and]
   exact simp_call (D := n.decls) (f := ⟨r.params, r.lent, r.result⟩) (by omega) hG hN h r0 (by first | (rw [sgN_len]; exact r1) | (rw [List.length_map]; exact r1)) r3
 ·refine sb_want V hN hb1 hb2 (by omega) (by omega) (want := []) (c := false) (t := 0) (fun q => nomatch q) (fun hp => ?_) (fun l hA hp => ⟨-1, ?_, fun q => nomatch q⟩) hbad
  ·unfold spec_core spec_routineType
   simp only [h, Int.reduceEq, decide_true, decide_false, Bool.false_eq_true, if_true, if_false, Option.bind_some]
   rw [inRange_eq, len_def n.routines, w_id (n := (n.routines.length : Int) - 1) (by omega) (by omega)]
   have : (decide (0 ≤ s.num) && decide (s.num ≤ (n.routines.length : Int) - 1)) = false := by
    rw [Bool.and_eq_false_iff, decide_eq_false_iff_not, decide_eq_false_iff_not]; omega
   rw [this]; simp [Sh.cont]
  ·refine core_simple (by omega) (by omega) (by omega) (by omega) (by omega) (pre_kids (by omega) (by omega) hp) ?_
   rw [Bool.false_and]
   exact simp_callout (D := n.decls) hG (.inl h) (by first | (rw [sgN_len]; exact hr) | (rw [List.length_map]; exact hr))
theorem core_close {l : List Int} {t : Int} {ok : Bool} {lent : Bool} (h : s.op = 10) (hk : s.kids = []) (hle : (if decide (0 ≤ s.num) = true then if decide (s.num < Sh.len (sgN n).funcs) = true then Option.bind (Sh.get (sgN n).funcs s.num) fun c83 => some (decide (0 < Sh.len c83.lent)) else some false else some false) = some lent)
  (hs : impl_signatures_simpleType N (sgN n) s.op s.num l = some (t, ok)) : impl_core N R2 (sgN n) v s l = if lent = true then some (-1, false) else some (t, ok) := by
 unfold impl_core
 rw [nctg (by omega) (by omega), hs, hk]
 simp only [Option.bind_some, Bool.false_eq_true, if_false, h, Int.reduceEq, decide_false, decide_true, if_true]
 rw [show decide ((0 : Int) < Sh.len ([] : List Block)) = false from rfl]
 simp only [Bool.false_eq_true, if_false]
 rw [hle]
 cases lent <;> rfl
theorem st_close (V : SK n s v) (S : NSig n) (hN : 2000000 ≤ N) (hb1 : spec_validInto v s = some b) (hb2 : impl_into v s = some (!b)) (h : s.op = 10) : SBoth n R1 R2 N v s := by
 have hl : v.length ≤ 1048576 := by have := V.vlen; omega
 have ha := V.alen
 have hR := S.rlen
 have hD := S.dlen
 have hG : (sgN n).funcs.length ≤ 4 := by rw [sgN_len]; exact hR
 have hbad := hbad_has (n := n) (R2 := R2) (N := N) (v := v) (b := b) (s := s) (by rw [h]; decide) (by omega) (by omega) (by omega) (by omega)
 rcases rout_at S s.num with ⟨r, r0, r1, r2, r3, r4, r5, r6⟩ | hr
 ·have r1' : s.num ≤ (n.routines.length : Int) - 1 := by omega
  have hle : (if decide (0 ≤ s.num) = true then if decide (s.num < Sh.len (sgN n).funcs) = true then Option.bind (Sh.get (sgN n).funcs s.num) fun c83 => some (decide (0 < Sh.len c83.lent)) else some false else some false) = some (decide (¬ r.lent = [])) := by
   rw [r3, len_def, sgN_len]
   simp only [r0, r1, decide_true, if_true, Option.bind_some]
   cases r.lent with
   | nil => rfl
   | cons a q => simp [len_def] <;> omega
  have hcore : ∀ (X : Option Int), spec_core N R1 n v s = Sh.cont (Option.bind (Option.bind (
     if decide (r.params = []) = true then some true
     else if decide (0 < Sh.len r.lent) = true then some true
     else Option.bind (Sh.sl r.params 0 (Sh.w (Sh.len r.params - 1))) fun l36 => Option.bind (spec_typed N v s.args l36) fun q37 => some !q37) fun t25 =>
     if t25 = true then some (-1) else Option.bind (Sh.get r.params (Sh.w (Sh.len r.params - 1))) fun c30 => Option.bind (spec_arrowOf N n.decls c30 r.result) fun q31 => some q31) fun q66 => some (Sum.inl q66)) id fun () => some (-1) := fun _ => by
   unfold spec_core spec_routineType
   simp only [h, Int.reduceEq, decide_true, decide_false, Bool.false_eq_true, if_true, if_false, Option.bind_some]
   rw [inRange_eq, len_def n.routines, w_id (n := (n.routines.length : Int) - 1) (by omega) (by omega), r2]
   simp only [Option.bind_some, r0, r1', decide_true, Bool.and_self, Bool.not_true, Bool.false_eq_true, if_false, len_nil]
  have hcore := hcore none
  have hlent : decide ((0 : Int) < Sh.len r.lent) = decide (¬ r.lent = []) := by
   cases r.lent with
   | nil => rfl
   | cons a q => exact decide_eq_decide.2 (by rw [len_def, List.length_cons]; simp <;> omega)
  rw [hlent] at hcore
  by_cases hp0 : r.params = []
  ·refine sb_want V hN hb1 hb2 (by omega) (by omega) (want := []) (c := false) (t := 0) (fun q => nomatch q) (fun hp => by rw [hcore]; simp [hp0, Sh.cont]) (fun l hA hp => ⟨-1, ?_, fun q => nomatch q⟩) hbad
   have hl2 := argT_len hA
   rcases simp_close (D := n.decls) (G := (sgN n).funcs) (ks := l) (N := N) (f := ⟨r.params, r.lent, r.result⟩) (by omega) hD hG r4 hN h r0 (by first | (rw [sgN_len]; exact r1) | (rw [List.length_map]; exact r1)) r3 with ⟨_, z⟩ | ⟨m, x, z, _⟩
   ·rw [core_close h (pre_kids (by omega) (by omega) hp) hle z]
    cases decide (¬ r.lent = []) <;> rfl
   ·exfalso; rw [hp0] at z; simp at z
  ·obtain ⟨m, hm⟩ : ∃ m, r.params.length = m + 1 := ⟨r.params.length - 1, by have := List.length_pos_iff.2 hp0; omega⟩
   obtain ⟨x, hx, hxm⟩ := at_lt (l := r.params) (i := m) (by omega)
   have hw : Sh.w (Sh.len r.params - 1) = (m : Int) := by rw [len_def, w_id (by omega) (by omega)]; omega
   have ht : spec_typed N v s.args (r.params.take m) = some (decide (argT v s.args = some (r.params.take m))) := typed_eq hl ha hN
   have hty : arrI x r.result n.decls 0 = -1 ∨ tyB n.decls (arrI x r.result n.decls 0) = true := by
    rcases arrI_ty (a := x) (b := r.result) n.decls 0 with q | q
    ·exact .inl q
    ·right; unfold tyB; simp; omega
   rw [hw, sl_drop (by omega), get_lt hx] at hcore
   simp only [Option.bind_some] at hcore
   rw [spec_arrowOf_eq (by omega) hN, ht] at hcore
   simp only [Option.bind_some] at hcore
   refine sb_want V hN hb1 hb2 (by omega) (by omega) (want := r.params.take m) (c := decide (r.lent = []) && decide (0 ≤ arrI x r.result n.decls 0)) (t := arrI x r.result n.decls 0) (fun q => ?_) (fun hp => ?_) (fun l hA hp => ?_) hbad
   ·simp only [Bool.and_eq_true, decide_eq_true_eq] at q
    rcases hty with z | z
    ·omega
    ·exact z
   ·rw [hcore]
    by_cases c1 : r.lent = []
    ·by_cases c2 : argT v s.args = some (r.params.take m)
     ·by_cases c3 : 0 ≤ arrI x r.result n.decls 0
      ·simp [hp0, c1, c2, c3, Sh.cont]
      ·have : arrI x r.result n.decls 0 = -1 := by
        rcases hty with z | z
        ·exact z
        ·exact absurd (tyB_nn z).1 c3
       simp [hp0, c1, c2, this, Sh.cont]
     ·simp [hp0, c1, c2, Sh.cont]
    ·simp [hp0, c1, Sh.cont]
   ·have hl2 := argT_len hA
    rcases simp_close (D := n.decls) (G := (sgN n).funcs) (ks := l) (N := N) (f := ⟨r.params, r.lent, r.result⟩) (by omega) hD hG r4 hN h r0 (by first | (rw [sgN_len]; exact r1) | (rw [List.length_map]; exact r1)) r3 with ⟨z, _⟩ | ⟨m', x', z, z2, z3⟩
    ·exact absurd z hp0
    ·have : m' = m := by rw [hm] at z; omega
     subst this
     have z2' : r.params[m']? = some x' := z2
     rw [hx] at z2'
     cases z2'
     rw [core_close h (pre_kids (by omega) (by omega) hp) hle z3]
     by_cases c1 : r.lent = []
     ·exact ⟨_, by simp [c1], fun _ _ => rfl⟩
     ·exact ⟨-1, by simp [c1], fun q => by simp [c1] at q⟩
 ·refine sb_want V hN hb1 hb2 (by omega) (by omega) (want := []) (c := false) (t := 0) (fun q => nomatch q) (fun hp => ?_) (fun l hA hp => ⟨-1, ?_, fun q => nomatch q⟩) hbad
  ·unfold spec_core spec_routineType
   simp only [h, Int.reduceEq, decide_true, decide_false, Bool.false_eq_true, if_true, if_false, Option.bind_some]
   rw [inRange_eq, len_def n.routines, w_id (n := (n.routines.length : Int) - 1) (by omega) (by omega)]
   have : (decide (0 ≤ s.num) && decide (s.num ≤ (n.routines.length : Int) - 1)) = false := by
    rw [Bool.and_eq_false_iff, decide_eq_false_iff_not, decide_eq_false_iff_not]; omega
   rw [this]; simp [Sh.cont]
  ·have hle : (if decide (0 ≤ s.num) = true then if decide (s.num < Sh.len (sgN n).funcs) = true then Option.bind (Sh.get (sgN n).funcs s.num) fun c83 => some (decide (0 < Sh.len c83.lent)) else some false else some false) = some false := by
    rw [len_def, sgN_len]
    by_cases c : 0 ≤ s.num
    ·have : ¬ s.num < (n.routines.length : Int) := by omega
     simp [c, this]
    ·simp [c]
   rw [core_close h (pre_kids (by omega) (by omega) hp) hle (simp_callout (D := n.decls) hG (.inr h) (by first | (rw [sgN_len]; exact hr) | (rw [List.length_map]; exact hr)))]
   simp
end
end RC



namespace RC
open Go
section
variable {n : RNormal} {R1 : RNormal → List Int → Block → Option Int} {R2 : RSignatures → List Int → Block → Option Int} {T : List Int → Block → Int} {s : Step} {v : List Int} {N : Nat} {b : Bool}
theorem atV_some {a x : Int} (h : atV v a = some x) : 0 ≤ a ∧ a < (v.length : Int) ∧ Sh.get v a = some x ∧ x ∈ v := by
 unfold atV at h
 split at h
 ·rename_i hr
  exact ⟨hr.1, hr.2, by rw [get_pos' hr.1, h], List.mem_of_getElem? h⟩
 ·cases h
theorem argT_two {a0 a1 : Int} : argT v [a0, a1] = (atV v a0).bind fun x => (atV v a1).map fun y => [x, y] := by
 simp only [argT]
 cases atV v a0 <;> cases atV v a1 <;> rfl
theorem argT_one {a0 : Int} : argT v [a0] = (atV v a0).map fun x => [x] := by
 simp only [argT]
 cases atV v a0 <;> rfl
theorem st_apply (V : SK n s v) (S : NSig n) (hN : 2000000 ≤ N) (hb1 : spec_validInto v s = some b) (hb2 : impl_into v s = some (!b)) (h : s.op = 11) : SBoth n R1 R2 N v s := by
 have hl : v.length ≤ 1048576 := by have := V.vlen; omega
 have ha := V.alen
 have hD := S.dlen
 have hh : hasN s.op = false := by rw [h]; decide
 by_cases h2 : s.args.length = 2
 ·obtain ⟨a0, a1, hargs⟩ : ∃ a0 a1, s.args = [a0, a1] := by
   match hk : s.args, h2 with
   | [a, c], _ => exact ⟨a, c, rfl⟩
  have hcore : spec_core N R1 n v s = some (match atV v a0 with
    | some x => match arrD n.decls x with
     | some d => if argT v [a1] = some [d.from_] then d.to else -1
     | none => -1
    | none => -1) := by
   unfold spec_core
   simp only [h, Int.reduceEq, decide_true, decide_false, Bool.false_eq_true, if_true, if_false, Option.bind_some]
   rw [hargs, show decide (Sh.len [a0, a1] = 2) = true from rfl, show Sh.get [a0, a1] 0 = some a0 from rfl, show Sh.sl [a0, a1] 1 (Sh.len [a0, a1]) = some [a1] from rfl]
   simp only [if_true, Option.bind_some]
   rw [inRange_eq, len_def v, w_id (n := (v.length : Int) - 1) (by omega) (by omega)]
   simp only [Option.bind_some]
   cases hA : atV v a0 with
   | none =>
    have hr : ¬ (0 ≤ a0 ∧ a0 < (v.length : Int)) := fun q => by obtain ⟨x, q1, _⟩ := atV_in q.1 q.2; rw [hA] at q1; cases q1
    have : (decide (0 ≤ a0) && decide (a0 ≤ (v.length : Int) - 1)) = false := by
     rw [Bool.and_eq_false_iff, decide_eq_false_iff_not, decide_eq_false_iff_not]; omega
    rw [this]; simp [Sh.cont]
   | some x =>
    obtain ⟨q1, q2, q3, q4⟩ := atV_some hA
    have : (decide (0 ≤ a0) && decide (a0 ≤ (v.length : Int) - 1)) = true := by
     rw [Bool.and_eq_true, decide_eq_true_eq, decide_eq_true_eq]; omega
    rw [this, q3]
    simp only [if_true, Option.bind_some]
    rw [spec_isArrow_eq (by omega)]
    simp only [Option.bind_some]
    cases hB : arrD n.decls x with
    | none => simp [Sh.cont]
    | some d =>
     obtain ⟨m1, m2, m3, m4⟩ := arrD_mem hB
     have g5 : Sh.get n.decls (Sh.w (x - 1)) = some d := by rw [w_id (by omega) (by omega), get_pos' (by omega), m4]
     have ht : spec_typed N v [a1] [d.from_] = some (decide (argT v [a1] = some [d.from_])) := typed_eq hl (by simp) hN
     rw [g5]
     simp only [Option.isSome_some, if_true, Option.bind_some]
     rw [ht]
     by_cases q : argT v [a1] = some [d.from_] <;> simp [q, Sh.cont]
  cases hA0 : atV v a0 with
  | none =>
   have hA : argT v s.args = none := by rw [hargs, argT_two, hA0]; rfl
   refine sb_want V hN hb1 hb2 (by omega) (by omega) (want := []) (c := false) (t := 0) (fun q => nomatch q) (fun hp => by rw [hcore, hA0]; simp) (fun l q => by rw [hA] at q; cases q) (fun l q => by rw [hA] at q; cases q)
  | some x =>
   cases hA1 : atV v a1 with
   | none =>
    have hA : argT v s.args = none := by rw [hargs, argT_two, hA0, hA1]; rfl
    have hA2 : argT v [a1] = none := by rw [argT_one, hA1]; rfl
    refine sb_want V hN hb1 hb2 (by omega) (by omega) (want := []) (c := false) (t := 0) (fun q => nomatch q) (fun hp => by rw [hcore, hA0, hA2]; simp; split <;> rfl) (fun l q => by rw [hA] at q; cases q) (fun l q => by rw [hA] at q; cases q)
   | some y =>
    have hA : argT v s.args = some [x, y] := by rw [hargs, argT_two, hA0, hA1]; rfl
    have hA2 : argT v [a1] = some [y] := by rw [argT_one, hA1]; rfl
    have hbad : ∀ l, argT v s.args = some l → preNB b s = false → b = true → ∃ t', impl_core N R2 (sgN n) v s l = some (t', false) := fun l hl2 hp hb => by
     by_cases hk : s.kids = []
     ·rcases pre_bad (by omega) (by omega) hp hb with q | q
      ·exact absurd hk q
      ·rw [hA] at hl2; cases hl2
       have e := simp_apply (D := n.decls) (G := (sgN n).funcs) (ks := [x, y]) (num := s.num) (N := N) hD h rfl
       cases hB : arrD n.decls x with
       | none => rw [hB] at e; exact ⟨0, core_simple (by omega) (by omega) (by omega) (by omega) (by omega) hk e⟩
       | some d =>
        rw [hB] at e
        refine ⟨d.to, core_simple (by omega) (by omega) (by omega) (by omega) (by omega) hk (e.trans ?_)⟩
        simp [q.1]
     ·exact ⟨_, core_kids (by omega) (by omega) (by omega) (by omega) hk⟩
    cases hB : arrD n.decls x with
    | none =>
     refine sb_want V hN hb1 hb2 (by omega) (by omega) (want := []) (c := false) (t := 0) (fun q => nomatch q) (fun hp => by rw [hcore, hA0]; dsimp only; rw [hB]; simp) (fun l hl2 hp => ⟨0, ?_, fun q => nomatch q⟩) hbad
     rw [hA] at hl2; cases hl2
     refine core_simple (by omega) (by omega) (by omega) (by omega) (by omega) (pre_kids (by omega) (by omega) hp) ((simp_apply (D := n.decls) (G := (sgN n).funcs) (N := N) hD h rfl).trans ?_)
     rw [hB]; rfl
    | some d =>
     obtain ⟨m1, m2, m3, m4⟩ := arrD_mem hB
     have hty := (S.arrs d m1).2
     refine sb_want V hN hb1 hb2 (by omega) (by omega) (want := [x, y]) (c := decide (y = d.from_)) (t := d.to) (fun _ => hty) (fun hp => ?_) (fun l hl2 hp => ⟨d.to, ?_, fun _ _ => rfl⟩) hbad
     ·rw [hcore, hA0]
      dsimp only
      rw [hB, hA2, hA]
      by_cases q : y = d.from_ <;> simp [q]
     ·rw [hA] at hl2; cases hl2
      have hn := pre_num hh hp
      refine core_simple (by omega) (by omega) (by omega) (by omega) (by omega) (pre_kids (by omega) (by omega) hp) ((simp_apply (D := n.decls) (G := (sgN n).funcs) (N := N) hD h rfl).trans ?_)
      rw [hB]; simp [hn]
 ·have h2' : ¬ ((s.args.length : Int) = 2) := by omega
  refine sb_want V hN hb1 hb2 (by omega) (by omega) (want := []) (c := false) (t := 0) (fun q => nomatch q) (fun hp => ?_) (fun l hA hp => ⟨-1, ?_, fun q => nomatch q⟩) (fun l hA hp hb => ?_)
  ·unfold spec_core
   simp only [h, Int.reduceEq, decide_true, decide_false, Bool.false_eq_true, if_true, if_false, Option.bind_some, len_def, h2']
   simp [Sh.cont]
  ·have := argT_len hA
   exact core_simple (by omega) (by omega) (by omega) (by omega) (by omega) (pre_kids (by omega) (by omega) hp) ((simp_applyout (D := n.decls) (G := (sgN n).funcs) (N := N) h (by omega)).trans (by simp))
  ·have := argT_len hA
   by_cases hk : s.kids = []
   ·exact ⟨-1, core_simple (by omega) (by omega) (by omega) (by omega) (by omega) hk (simp_applyout (D := n.decls) (G := (sgN n).funcs) (N := N) h (by omega))⟩
   ·exact ⟨_, core_kids (by omega) (by omega) (by omega) (by omega) hk⟩
def cntB (D : List RDecl) (s : Step) : List Int → Bool
 | [x] => decide (¬ x = 0 ∧ s.num = 0 ∧ s.kids = [] ∧ ¬ ((s.op = 16 ∨ s.op = 17) ∧ (arrD D x).isSome = true))
 | _ => false
theorem st_count (V : SK n s v) (S : NSig n) (hN : 2000000 ≤ N) (hb1 : spec_validInto v s = some b) (hb2 : impl_into v s = some (!b)) (h : s.op = 14 ∨ s.op = 15 ∨ s.op = 16 ∨ s.op = 17) : SBoth n R1 R2 N v s := by
 have hl : v.length ≤ 1048576 := by have := V.vlen; omega
 have hD := S.dlen
 have e1 := spec_preN (n := n) (R1 := R1) (N := N) hb1
 have e2 := impl_preN (n := n) (R2 := R2) hl V.alen hN hb2
 have hc : ctg s.op = true := by rcases h with h | h | h | h <;> rw [h] <;> decide
 have hp : preNB b s = ((decide (s.num = 0) && b) && decide (s.kids = [])) := by
  unfold preNB
  rcases h with h | h | h | h <;> rw [h] <;> simp [hasN]
 have hcore : spec_core N R1 n v s = some (match argT v s.args with
   | some [x] => if x = 0 ∨ ((s.op = 16 ∨ s.op = 17) ∧ (arrD n.decls x).isSome = true) then -1 else 0
   | _ => -1) := by
  have hct : spec_core N R1 n v s = Sh.cont (Option.bind (spec_countingType n v s) fun q => some (Sum.inl q)) id fun () => some (-1) := by
   unfold spec_core
   rcases h with h | h | h | h <;> simp only [h, Int.reduceEq, decide_true, decide_false, Bool.false_eq_true, if_true, if_false, Option.bind_some]
  rw [hct]
  unfold spec_countingType
  have klen : decide (Sh.len s.args = 1) = decide (s.args.length = 1) := decide_eq_decide.2 (by rw [len_def]; omega)
  rw [klen]
  by_cases h1 : s.args.length = 1
  ·obtain ⟨a, hargs⟩ : ∃ a, s.args = [a] := by
    match hk : s.args, h1 with
    | [a], _ => exact ⟨a, rfl⟩
   rw [hargs, show Sh.get [a] 0 = some a from rfl, argT_one]
   simp only [Option.bind_some, List.length_cons, List.length_nil, decide_true, Bool.not_true, Bool.false_eq_true, if_false]
   rw [inRange_eq, len_def, w_id (by omega) (by omega)]
   simp only [Option.bind_some]
   cases hA : atV v a with
   | none =>
    have hr : ¬ (0 ≤ a ∧ a < (v.length : Int)) := fun q => by obtain ⟨x, q1, _⟩ := atV_in q.1 q.2; rw [hA] at q1; cases q1
    have : (decide (0 ≤ a) && decide (a ≤ (v.length : Int) - 1)) = false := by
     rw [Bool.and_eq_false_iff, decide_eq_false_iff_not, decide_eq_false_iff_not]; omega
    rw [this]; simp [Sh.cont]
   | some x =>
    obtain ⟨q1, q2, q3, q4⟩ := atV_some hA
    have : (decide (0 ≤ a) && decide (a ≤ (v.length : Int) - 1)) = true := by
     rw [Bool.and_eq_true, decide_eq_true_eq, decide_eq_true_eq]; omega
    rw [this, q3]
    simp only [Bool.not_true, Bool.false_eq_true, if_false, Option.bind_some]
    rw [spec_isArrow_eq (by omega)]
    by_cases z : x = 0
    ·simp [z, Sh.cont]
    ·rcases h with h | h | h | h <;> cases hB : arrD n.decls x <;> simp [h, z, hB, Sh.cont]
  ·have : ∀ x, argT v s.args ≠ some [x] := fun x q => h1 (by have := argT_len q; simpa using this.symm)
   simp only [h1, decide_false, Bool.not_false, if_true, Option.bind_some]
   cases hA : argT v s.args with
   | none => rfl
   | some l =>
    match l, hA with
    | [], _ => rfl
    | [x], hA => exact absurd hA (this x)
    | x :: y :: r, _ => rfl
 rw [hp, hcore] at e1
 cases hA : argT v s.args with
 | none =>
  rw [hA] at e1 e2
  refine sb_bad (q := -1) ?_ e2 rfl (by omega)
  rw [e1]; simp
 | some l =>
  rw [hA] at e1 e2
  simp only [Option.elim_some] at e2
  cases b with
  | false =>
   refine sb_bad (q := -1) ?_ e2 rfl (by omega)
   rw [e1]; simp
  | true =>
   simp only [if_true] at e2
   have ilen : decide (Sh.len l = 1) = decide (l.length = 1) := decide_eq_decide.2 (by rw [len_def]; omega)
   have hci : impl_isCounting s.op = some true := by rw [ctg_impl, hc]
   have hic : impl_core N R2 (sgN n) v s l = some (-1, cntB n.decls s l) := by
    unfold impl_core
    rw [hci, ilen]
    simp only [Option.bind_some, if_true, len_nil]
    match l with
    | [] => simp [cntB]
    | [x] =>
     rw [show Sh.get [x] 0 = some x from rfl]
     simp only [Option.bind_some, cntB]
     rw [show (sgN n).decls = n.decls from rfl, impl_arrowAt_eq (by omega)]
     by_cases z : x = 0
     ·simp [z]
     ·by_cases z2 : s.num = 0
      ·by_cases z3 : s.kids = []
       ·rcases h with h | h | h | h <;> cases hB : arrD n.decls x <;> simp [h, z, z2, z3, hB]
       ·simp [z, z2, z3]
      ·simp [z, z2]
    | x :: y :: r => simp [cntB]
   rw [hic] at e2
   match l with
   | [] => exact sb_bad (q := -1) (by rw [e1]; simp) e2 rfl (by omega)
   | x :: y :: r => exact sb_bad (q := -1) (by rw [e1]; simp) e2 rfl (by omega)
   | [x] =>
    simp only [cntB] at e2
    simp only at e1
    by_cases g : ¬ x = 0 ∧ s.num = 0 ∧ s.kids = [] ∧ ¬ ((s.op = 16 ∨ s.op = 17) ∧ (arrD n.decls x).isSome = true)
    ·refine ⟨0, -1, true, ?_, ?_, ?_⟩
     ·rw [e1]
      have : ¬ (x = 0 ∨ ((s.op = 16 ∨ s.op = 17) ∧ (arrD n.decls x).isSome = true)) := fun q => by
       rcases q with q | q
       ·exact g.1 q
       ·exact g.2.2.2 q
      rw [if_neg this]; simp [g.2.1, g.2.2.1]
     ·rw [e2, decide_eq_true g]
     ·rw [if_pos rfl, if_pos hc]; exact ⟨by omega, trivial⟩
    ·refine sb_bad (q := -1) ?_ e2 (decide_eq_false g) (by omega)
     rw [e1]
     by_cases z2 : s.num = 0
     ·by_cases z3 : s.kids = []
      ·have : x = 0 ∨ ((s.op = 16 ∨ s.op = 17) ∧ (arrD n.decls x).isSome = true) := by
        by_cases q : x = 0
        ·exact .inl q
        ·refine .inr (Classical.byContradiction fun q2 => g ⟨q, z2, z3, q2⟩)
       rw [if_pos this]; simp
      ·simp [z3]
     ·simp [z2]
theorem st_other (V : SK n s v) (hN : 2000000 ≤ N) (hb1 : spec_validInto v s = some b) (hb2 : impl_into v s = some (!b)) (h : s.op < 0 ∨ s.op = 12 ∨ s.op = 13 ∨ 17 < s.op) : SBoth n R1 R2 N v s := by
 have hl : v.length ≤ 1048576 := by have := V.vlen; omega
 have e1 := spec_preN (n := n) (R1 := R1) (N := N) hb1
 have e2 := impl_preN (n := n) (R2 := R2) hl V.alen hN hb2
 have hc : ctg s.op = false := by unfold ctg; rw [Bool.and_eq_false_iff, decide_eq_false_iff_not, decide_eq_false_iff_not]; omega
 have hcore : spec_core N R1 n v s = some (-1) := by
  unfold spec_core
  simp only [show ¬ s.op = 0 by omega, show ¬ s.op = 1 by omega, show ¬ s.op = 2 by omega, show ¬ s.op = 3 by omega, show ¬ s.op = 4 by omega, show ¬ s.op = 5 by omega, show ¬ s.op = 6 by omega, show ¬ s.op = 7 by omega, show ¬ s.op = 8 by omega, show ¬ s.op = 9 by omega, show ¬ s.op = 10 by omega, show ¬ s.op = 11 by omega, show ¬ s.op = 14 by omega, show ¬ s.op = 15 by omega, show ¬ s.op = 16 by omega, show ¬ s.op = 17 by omega, decide_false, Bool.false_eq_true, if_false, Option.bind_some]
  simp [Sh.cont]
 have h1 : spec_stepType N R1 n v s = some (-1) := by rw [e1, hcore]; split <;> rfl
 cases hA : argT v s.args with
 | none => rw [hA] at e2; exact sb_bad h1 e2 rfl (by omega)
 | some l =>
  rw [hA] at e2
  simp only [Option.elim_some] at e2
  cases b with
  | false => exact sb_bad h1 e2 rfl (by omega)
  | true =>
   simp only [if_true] at e2
   have hic : impl_core N R2 (sgN n) v s l = some (-1, false) := by
    unfold impl_core
    rw [ctg_impl, hc]
    simp only [Option.bind_some, Bool.false_eq_true, if_false, show ¬ s.op = 7 by omega, show ¬ s.op = 8 by omega, show ¬ s.op = 10 by omega, decide_false]
    rw [show (sgN n) = ⟨n.decls, (sgN n).funcs⟩ from rfl, simp_other (by omega)]
    by_cases hk : decide (0 < Sh.len s.kids) = true <;> simp [hk]
   rw [hic] at e2
   exact sb_bad h1 e2 rfl (by omega)
theorem step_both (H : NOK n R1 R2 T (nss s)) (V : SK n s v) (S : NSig n) (hN : 2000000 ≤ N) : SBoth n R1 R2 N v s := by
 obtain ⟨b, hb1, hb2⟩ := into_both (n := n) (s := s) V.tys (by have := V.vlen; omega)
 by_cases h0 : s.op = 0
 ·exact st_int V hN hb1 hb2 h0
 by_cases h1 : s.op = 1 ∨ s.op = 2 ∨ s.op = 3 ∨ s.op = 4
 ·exact st_arith V hN hb1 hb2 h1
 by_cases h5 : s.op = 5
 ·exact st_print V hN hb1 hb2 h5
 by_cases h6 : s.op = 6
 ·exact st_con V S hN hb1 hb2 h6
 by_cases h7 : s.op = 7
 ·exact st_if H V S hN hb1 hb2 h7
 by_cases h8 : s.op = 8
 ·exact st_match H V S hN hb1 hb2 h8
 by_cases h9 : s.op = 9
 ·exact st_call V S hN hb1 hb2 h9
 by_cases h10 : s.op = 10
 ·exact st_close V S hN hb1 hb2 h10
 by_cases h11 : s.op = 11
 ·exact st_apply V S hN hb1 hb2 h11
 by_cases hc : s.op = 14 ∨ s.op = 15 ∨ s.op = 16 ∨ s.op = 17
 ·exact st_count V S hN hb1 hb2 hc
 exact st_other V hN hb1 hb2 (by omega)
end
end RC



namespace RC
open Go
section
variable {n : RNormal} {R1 : RNormal → List Int → Block → Option Int} {R2 : RSignatures → List Int → Block → Option Int} {T : List Int → Block → Int} {b : Block} {v : List Int} {N : Nat}
theorem spec_defines_eq (o : Int) : spec_defines o = some (decide (0 ≤ o) && decide (o ≤ 11)) := by unfold spec_defines; rw [inRange_eq]; rfl
theorem nls_mem {l : List Step} {s : Step} (h : s ∈ l) : nss s ≤ nls l := by
 induction l with
 | nil => cases h
 | cons c k ih =>
  simp only [nls]
  rcases List.mem_cons.1 h with rfl | h
  ·omega
  ·have := ih h; omega
structure BK (n : RNormal) (b : Block) (v : List Int) : Prop where
 inn : BlockIn b
 size : Bs b
 len : v.length + 4 * nst b ≤ 4000
 tys : ∀ x ∈ v, tyB n.decls x = true
theorem blocks_loop (H : NOK n R1 R2 T (nst b)) (B : BK n b v) (S : NSig n) (hN : 2000000 ≤ N) : ∃ o : Option (List Int),
  spec_blockType_B_L1 N n b R1 N 0 v = some (o.elim (.inl (-1)) .inr) ∧ impl_signatures_blockType_B_L1 N (sgN n) b R2 N 0 v = some (o.elim (.inl (-1)) .inr) ∧ ∀ l, o = some l → l.length ≤ 8000 ∧ ∀ x ∈ l, tyB n.decls x = true := by
 have hb := B.size
 have hsl := hb.len
 have key : ∀ {M i : Nat}, i ≤ b.steps.length → b.steps.length - i < M → ∀ w : List Int, w.length + 4 * nls (b.steps.drop i) ≤ 4000 → (∀ x ∈ w, tyB n.decls x = true) → ∃ o : Option (List Int),
   spec_blockType_B_L1 N n b R1 M i w = some (o.elim (.inl (-1)) .inr) ∧ impl_signatures_blockType_B_L1 N (sgN n) b R2 M i w = some (o.elim (.inl (-1)) .inr) ∧ ∀ l, o = some l → l.length ≤ 8000 ∧ ∀ x ∈ l, tyB n.decls x = true := by
  intro M i hi hM
  refine loop_ind b.steps.length (fun M i => ∀ w : List Int, w.length + 4 * nls (b.steps.drop i) ≤ 4000 → (∀ x ∈ w, tyB n.decls x = true) → ∃ o : Option (List Int),
   spec_blockType_B_L1 N n b R1 M i w = some (o.elim (.inl (-1)) .inr) ∧ impl_signatures_blockType_B_L1 N (sgN n) b R2 M i w = some (o.elim (.inl (-1)) .inr) ∧ ∀ l, o = some l → l.length ≤ 8000 ∧ ∀ x ∈ l, tyB n.decls x = true) ?_ ?_ hi hM
  ·intro q w hw ht
   refine ⟨some w, ?_, ?_, fun l hl => ?_⟩
   ·rw [spec_blockType_B_L1, if_neg (by simp [len_def])]; rfl
   ·rw [impl_signatures_blockType_B_L1, if_neg (by simp [len_def])]; rfl
   ·cases hl; exact ⟨by omega, ht⟩
  ·intro q i hi ih w hw ht
   obtain ⟨s, hs, hsm⟩ := at_lt hi
   rw [nls_drop hs] at hw
   have hn1 := nls_mem hsm
   have hn2 := nst_eq b
   have hz := step_le hsm
   have hbz : bsz b ≤ 1048576 := hb
   have V : SK n s w := ⟨B.inn.steps.1 s hsm, by omega, by omega, ht⟩
   obtain ⟨y, t, ok, e1, e2, e3⟩ := step_both (T := T) (N := N) (fun v b a1 a2 a3 a4 a5 => H v b a1 a2 (by omega) a4 a5) V S hN
   have f1 : spec_blockType_B_L1 N n b R1 (q + 1) i w = Sh.cont (if decide (y < 0) = true then some (Sum.inl (Sum.inl (-1))) else Option.bind (spec_defines s.op) fun q33 => if q33 = true then Option.bind (Sh.app w [y] 8) fun l35 => some (Sum.inr l35) else some (Sum.inr w)) id fun l23 => spec_blockType_B_L1 N n b R1 q ((i + 1 : Nat) : Int) l23 := by
    rw [spec_blockType_B_L1, if_pos (by simp [len_def]; omega), get_lt hs]
    simp only [Option.bind_some]
    rw [e1, w_id (by omega) (by omega), show ((i : Int) + 1) = ((i + 1 : Nat) : Int) by omega]
    rfl
   have f2 : impl_signatures_blockType_B_L1 N (sgN n) b R2 (q + 1) i w = Sh.cont (if (!ok) = true then some (Sum.inl (Sum.inl (-1))) else Option.bind (impl_isCounting s.op) fun q36 => if (!q36) = true then Option.bind (Sh.app w [t] 8) fun l39 => some (Sum.inr l39) else some (Sum.inr w)) id fun l23 => impl_signatures_blockType_B_L1 N (sgN n) b R2 q ((i + 1 : Nat) : Int) l23 := by
    rw [impl_signatures_blockType_B_L1, if_pos (by simp [len_def]; omega), get_lt hs]
    simp only [Option.bind_some]
    rw [e2, w_id (by omega) (by omega), show ((i : Int) + 1) = ((i + 1 : Nat) : Int) by omega]
    rfl
   rw [f1, f2, spec_defines_eq, ctg_impl]
   cases ok with
   | false =>
    simp only [Bool.false_eq_true, if_false] at e3
    exact ⟨none, by simp [e3, Sh.cont], by simp [Sh.cont], fun l hl => nomatch hl⟩
   | true =>
    simp only [if_true] at e3
    obtain ⟨e3, e4⟩ := e3
    have e3' : ¬ y < 0 := by omega
    have hns := nss_eq s
    cases hc : ctg s.op with
    | true =>
     have hop : (decide (0 ≤ s.op) && decide (s.op ≤ 11)) = false := by
      unfold ctg at hc
      simp only [Bool.and_eq_true, decide_eq_true_eq] at hc
      rw [Bool.and_eq_false_iff, decide_eq_false_iff_not, decide_eq_false_iff_not]; omega
     obtain ⟨o, g1, g2, g3⟩ := ih w (by omega) ht
     refine ⟨o, ?_, ?_, g3⟩
     ·rw [hop, ← g1]; simp [e3', Sh.cont]
     ·rw [← g2]; simp [Sh.cont]
    | false =>
     rw [hc] at e4
     simp only [Bool.false_eq_true, if_false] at e4
     obtain ⟨rfl, e5, e6, e7⟩ := e4
     have hop : (decide (0 ≤ s.op) && decide (s.op ≤ 11)) = true := by
      rw [Bool.and_eq_true, decide_eq_true_eq, decide_eq_true_eq]; exact ⟨e6, e7⟩
     obtain ⟨o, g1, g2, g3⟩ := ih (w ++ [t]) (by rw [List.length_append]; simp only [List.length_cons, List.length_nil]; omega) (fun x hx => by
      rcases List.mem_append.1 hx with h | h
      ·exact ht x h
      ·simp only [List.mem_singleton] at h; rw [h]; exact e5)
     refine ⟨o, ?_, ?_, g3⟩
     ·rw [hop, ← g1, app_ok w [t] 8 (by simp; omega) (by simp; omega)]; simp [e3', Sh.cont]
     ·rw [← g2, app_ok w [t] 8 (by simp; omega) (by simp; omega)]; simp [Sh.cont]
 have := key (Nat.zero_le _) (by omega : b.steps.length - 0 < N) v (by rw [List.drop_zero, ← nst_eq]; exact B.len) B.tys
 simpa using this
theorem block_both (H : NOK n R1 R2 T (nst b)) (B : BK n b v) (S : NSig n) (hN : 2000000 ≤ N) : ∃ t, spec_blockType_B N R1 n v b = some t ∧ impl_signatures_blockType_B N R2 (sgN n) v b = some t ∧ (t = -1 ∨ tyB n.decls t = true) := by
 have hvl : v.length ≤ 4000 := by have := B.len; omega
 obtain ⟨o, h1, h2, h3⟩ := blocks_loop H B S hN
 unfold spec_blockType_B impl_signatures_blockType_B spec_copyInts slices_Clone_int_int
 rw [app_ok [] v 8 (by simp; omega) (by simp; omega)]
 simp only [Option.bind_some, List.nil_append]
 rw [h1, h2]
 cases o with
 | none => exact ⟨-1, rfl, rfl, .inl rfl⟩
 | some l =>
  obtain ⟨l1, l2⟩ := h3 l rfl
  simp only [Option.elim_some, Sh.cont_inr]
  rw [inRange_eq, len_def, w_id (by omega) (by omega)]
  by_cases hr : 0 ≤ b.result ∧ b.result < (l.length : Int)
  ·obtain ⟨x, x1, x2⟩ := get_pos hr.1 hr.2
   have r1 : b.result ≤ (l.length : Int) - 1 := by omega
   have r2 : ¬ b.result < 0 := by omega
   have r3 : ¬ (l.length : Int) ≤ b.result := by omega
   exact ⟨x, by simp [hr.1, r1, x1], by simp [r2, r3, x1], .inr (l2 x (List.mem_of_getElem? x2))⟩
  ·refine ⟨-1, ?_, ?_, .inl rfl⟩
   ·have : (decide (0 ≤ b.result) && decide (b.result ≤ (l.length : Int) - 1)) = false := by
     rw [Bool.and_eq_false_iff, decide_eq_false_iff_not, decide_eq_false_iff_not]; omega
    rw [this]; simp
   ·by_cases r2 : b.result < 0
    ·simp [r2]
    ·have r3 : (l.length : Int) ≤ b.result := by omega
     simp [r2, r3]
end
theorem blockType_F {n : RNormal} (S : NSig n) {N : Nat} (hN : 2000000 ≤ N) : ∀ (m : Nat), ∃ T : List Int → Block → Int, ∀ (v : List Int) (b : Block), nst b < m → BK n b v →
  ∀ n1 n2, m ≤ n1 → m ≤ n2 → spec_blockType_F N n1 n v b = some (T v b) ∧ impl_signatures_blockType_F N n2 (sgN n) v b = some (T v b) ∧ (T v b = -1 ∨ tyB n.decls (T v b) = true) := by
 intro m
 induction m with
 | zero => exact ⟨fun _ _ => 0, fun v b h => by omega⟩
 | succ m ih =>
  obtain ⟨T, hT⟩ := ih
  refine ⟨fun v b => (spec_blockType_F N (m + 1) n v b).getD 0, fun v b hn B n1 n2 h1 h2 => ?_⟩
  have step : ∀ n1 n2, m ≤ n1 → m ≤ n2 → ∃ t, spec_blockType_B N (spec_blockType_F N n1) n v b = some t ∧ impl_signatures_blockType_B N (impl_signatures_blockType_F N n2) (sgN n) v b = some t ∧ (t = -1 ∨ tyB n.decls t = true) := fun n1 n2 h1 h2 =>
   block_both (T := T) (fun v c a1 a2 a3 a4 a5 => hT v c (by omega) ⟨a1, a2, a4, a5⟩ n1 n2 h1 h2) B S hN
  obtain ⟨m1, rfl⟩ : ∃ q, n1 = q + 1 := ⟨n1 - 1, by omega⟩
  obtain ⟨m2, rfl⟩ : ∃ q, n2 = q + 1 := ⟨n2 - 1, by omega⟩
  obtain ⟨t, q1, q2, q3⟩ := step m m (Nat.le_refl _) (Nat.le_refl _)
  obtain ⟨t', r1, r2, _⟩ := step m m2 (Nat.le_refl _) (by omega)
  obtain ⟨t'', s1, s2, _⟩ := step m1 m (by omega) (Nat.le_refl _)
  have e1 : t' = t := by rw [q1] at r1; cases r1; rfl
  have e2 : t'' = t := by rw [q2] at s2; cases s2; rfl
  subst e1; subst e2
  have e3 : (spec_blockType_F N (m + 1) n v b).getD 0 = t'' := by rw [spec_blockType_F, q1]; rfl
  dsimp only
  rw [e3]
  exact ⟨by rw [spec_blockType_F]; exact s1, by rw [impl_signatures_blockType_F]; exact r2, q3⟩
end RC



namespace RC
open Go
structure RRoutineIn (r : RRoutine) : Prop where
 params : ListIn I64 r.params
 lent : ListIn I64 r.lent
 result : I64 r.result
 body : BlockIn r.body
structure RNormalIn (n : RNormal) : Prop where
 decls : ListIn RDeclIn n.decls
 routines : ListIn RRoutineIn n.routines
def rtz (r : RRoutine) : Nat := r.params.length + r.lent.length + bsz r.body
def nmz (n : RNormal) : Nat := (n.decls.length + (n.decls.map dz).sum) + (n.routines.length + (n.routines.map rtz).sum)
theorem szBlock_at {b : Block} (hb : BlockIn b) {left : Int} (h0 : 0 ≤ left) (h1 : left ≤ 1048576) {N : Nat} (hN : 2000000 ≤ N) : laws_szBlock N b left = some (lft left (bsz b)) := by
 unfold laws_szBlock
 rw [szBlock_F_eq hN N b left hb h0 h1 (by omega)]; rfl
theorem szRoutine_eq {r : RRoutine} (hr : RRoutineIn r) {left : Int} (h0 : 0 ≤ left) (h1 : left ≤ 1048576) {N : Nat} (hN : 2000000 ≤ N) : laws_szRoutine N r left = some (lft left (rtz r)) := by
 unfold laws_szRoutine rtz
 rw [szIntS_eq h0 h1 hr.params.2]
 simp only [Option.bind_some]
 by_cases h : left - (r.params.length : Int) < 0
 ·rw [if_pos h, lft_neg (by omega)]; rfl
 ·rw [if_neg h, if_neg (by simpa using h), szIntS_eq (by omega) (by omega) hr.lent.2]
  simp only [Option.bind_some]
  by_cases h2 : left - (r.params.length : Int) - (r.lent.length : Int) < 0
  ·rw [if_pos h2, lft_neg (by omega)]; rfl
  ·rw [if_neg h2, if_neg (by simpa using h2), szBlock_at hr.body (by omega) (by omega) hN]
   simp only [Option.bind_some]
   by_cases h3 : left - (r.params.length : Int) - (r.lent.length : Int) - (bsz r.body : Int) < 0
   ·rw [lft_neg h3, lft_neg (by omega)]; rfl
   ·rw [lft_pos h3, lft_pos (by omega), if_neg (by simpa using h3)]
    congr 1; omega
theorem szRoutineS_eq {l : List RRoutine} (hl : ListIn RRoutineIn l) {left : Int} (h0 : 0 ≤ left) (h1 : left ≤ 1048576) {N : Nat} (hN : 2000000 ≤ N) : laws_szRoutineS N l left = some (lft left (l.length + (l.map rtz).sum)) := by
 have hlen := hl.2
 unfold laws_szRoutineS
 rw [len_def, w_id (by omega) (by omega)]
 by_cases h2 : left - (l.length : Int) < 0
 ·rw [if_pos (by simpa using h2), lft_neg (by omega)]
 ·rw [if_neg (by simpa using h2), sz_list (l := l) rtz (laws_szRoutineS_L1 N l) (fun n l => by rw [laws_szRoutineS_L1, if_neg (by simp [len_def])]) (fun n i x l' hx l0 l1 => ?_) (by omega) (by omega) (by omega)]
  ·by_cases h3 : left - (l.length : Int) - ((l.map rtz).sum : Nat) < 0
   ·rw [if_pos h3, lft_neg (by omega)]; rfl
   ·rw [if_neg h3, lft_pos (by omega)]
    simp only [Sh.cont_inr]
    congr 1; omega
  ·have hi := (List.getElem?_eq_some_iff.1 hx).1
   rw [laws_szRoutineS_L1, if_pos (by simp [len_def]; omega), get_lt hx]
   simp only [Option.bind_some]
   rw [szRoutine_eq (hl.1 x (List.mem_of_getElem? hx)) l0 l1 hN]
   simp only [Option.bind_some]
   by_cases h3 : l' - (rtz x : Int) < 0
   ·rw [lft_neg h3, if_pos h3]; rfl
   ·rw [lft_pos h3, if_neg h3, if_neg (by simpa using h3), w_id (by omega) (by omega), show ((i : Int) + 1) = ((i + 1 : Nat) : Int) by omega]
theorem szNormal_eq {n : RNormal} (H : RNormalIn n) {left : Int} (h0 : 0 ≤ left) (h1 : left ≤ 1048576) {N : Nat} (hN : 2000000 ≤ N) : laws_szNormal N n left = some (lft left (nmz n)) := by
 unfold laws_szNormal nmz
 rw [szDeclS_eq H.decls h0 h1 hN]
 simp only [Option.bind_some]
 by_cases h : left - ((n.decls.length + (n.decls.map dz).sum : Nat) : Int) < 0
 ·rw [lft_neg h, lft_neg (by omega)]; rfl
 ·rw [lft_pos h, if_neg (by simpa using h), szRoutineS_eq H.routines (by omega) (by omega) hN]
  simp only [Option.bind_some]
  by_cases h3 : left - ((n.decls.length + (n.decls.map dz).sum : Nat) : Int) - ((n.routines.length + (n.routines.map rtz).sum : Nat) : Int) < 0
  ·rw [lft_neg h3, lft_neg (by omega)]; rfl
  ·rw [lft_pos h3, lft_pos (by omega), if_neg (by simpa using h3)]
   congr 1; omega
theorem toRoutine_eq {r : RRoutine} (h : rtz r ≤ 1048576) {N : Nat} (hN : 2000000 ≤ N) : laws_toRoutine N r = some r := by
 unfold rtz at h
 unfold laws_toRoutine; rw [toIntS_eq (by omega) hN, toIntS_eq (by omega) hN, toBlock_eq (by unfold Bs; omega) hN]; rfl
theorem toRoutineS_eq {l : List RRoutine} (hl : l.length + (l.map rtz).sum ≤ 1048576) {N : Nat} (hN : 2000000 ≤ N) : laws_toRoutineS N l = some l := by
 unfold laws_toRoutineS
 rw [len_def, mk_ok _ _ _ (by omega) (by omega)]
 simp only [Option.bind_some]
 rw [to_list (l := l) (laws_toRoutineS_L1 N l) (fun n m => by rw [laws_toRoutineS_L1, if_neg (by simp [len_def])]) (fun n i x m hx hm => ?_) (by omega) (by simp)]
 ·rfl
 ·have hi := (List.getElem?_eq_some_iff.1 hx).1
  have hz := mem_sum rtz (List.mem_of_getElem? hx)
  obtain ⟨y, hy, _⟩ := at_lt (l := m) (i := i) (by omega)
  rw [laws_toRoutineS_L1, if_pos (by simp [len_def]; omega), get_lt hx]
  simp only [Option.bind_some]
  rw [toRoutine_eq (by omega) hN, get_lt hy]
  simp only [Option.bind_some]
  rw [put_nat, w_id (by omega) (by omega), show ((i : Int) + 1) = ((i + 1 : Nat) : Int) by omega]
theorem toNormal_eq {n : RNormal} (h : nmz n ≤ 1048576) {N : Nat} (hN : 2000000 ≤ N) : laws_toNormal N n = some n := by
 unfold nmz at h
 unfold laws_toNormal; rw [toDeclS_eq (by omega) hN, toRoutineS_eq (by omega) hN]; rfl
theorem eqRoutine_eq {r : RRoutine} (h : rtz r ≤ 1048576) {N : Nat} (hN : 2000000 ≤ N) : laws_eqRoutine N r r = some true := by
 unfold rtz at h
 unfold laws_eqRoutine; rw [eqIntS_eq (by omega) hN, eqIntS_eq (by omega) hN, eqBlock_eq (by unfold Bs; omega) hN]; simp
theorem eqRoutineS_eq {l : List RRoutine} (hl : l.length + (l.map rtz).sum ≤ 1048576) {N : Nat} (hN : 2000000 ≤ N) : laws_eqRoutineS N l l = some true := by
 unfold laws_eqRoutineS
 have L := all_loop (l := l) (laws_eqRoutineS_L1 N l l) (fun _ _ => true) (fun n => by rw [laws_eqRoutineS_L1, if_neg (by simp [len_def])]) (fun n i x hx => ?_) (by omega : l.length < N)
 ·rw [allAt_all (p := fun _ => true)] at L
  simp [L, Sh.cont]
 ·have hi := (List.getElem?_eq_some_iff.1 hx).1
  have hz := mem_sum rtz (List.mem_of_getElem? hx)
  rw [laws_eqRoutineS_L1, if_pos (by simp [len_def]; omega), get_lt hx]
  simp only [Option.bind_some]
  rw [eqRoutine_eq (by omega) hN, w_id (by omega) (by omega), show ((i : Int) + 1) = ((i + 1 : Nat) : Int) by omega]
  rfl
theorem eqNormal_eq {n : RNormal} (h : nmz n ≤ 1048576) {N : Nat} (hN : 2000000 ≤ N) : laws_eqNormal N n n = some true := by
 unfold nmz at h
 unfold laws_eqNormal; rw [eqDeclS_eq (by omega) hN, eqRoutineS_eq (by omega) hN]; rfl
structure NSmall (n : RNormal) : Prop where
 inn : RNormalIn n
 size : nmz n ≤ 1048576
theorem NSmall.decls {n : RNormal} (S : NSmall n) : DSmall n.decls := by
 have h := S.size
 unfold nmz at h
 have hd : ∀ d ∈ n.decls, dz d ≤ 1048576 := fun d hd => by have := mem_sum dz hd; omega
 refine ⟨by omega, fun d hm => ?_, fun d hm c hc => ?_⟩
 ·have := hd d hm; unfold dz at this; omega
 ·have := hd d hm; unfold dz at this
  have := mem_sum cz hc
  show cz c ≤ _
  omega
theorem NSmall.rlen {n : RNormal} (S : NSmall n) : n.routines.length ≤ 1048576 := by have h := S.size; unfold nmz at h; omega
theorem NSmall.rz {n : RNormal} (S : NSmall n) {r : RRoutine} (hr : r ∈ n.routines) : r.params.length ≤ 1048576 ∧ r.lent.length ≤ 1048576 ∧ Bs r.body := by
 have h := S.size
 unfold nmz at h
 have h2 := mem_sum rtz hr
 have h3 : rtz r = r.params.length + r.lent.length + bsz r.body := rfl
 unfold Bs
 omega
theorem sigsOf_list {n : RNormal} (hl : n.routines.length ≤ 1048576) {N : Nat} (hN : 2000000 ≤ N) : spec_sigsOf N n = some ⟨n.decls, n.routines.map rtF⟩ := by
 have key : ∀ {N i : Nat}, i ≤ n.routines.length → n.routines.length - i < N → spec_sigsOf_L1 n N i ((n.routines.take i).map rtF) = some (n.routines.map rtF) := by
  intro N i hi hN
  refine loop_ind n.routines.length (fun N i => spec_sigsOf_L1 n N i ((n.routines.take i).map rtF) = some (n.routines.map rtF)) ?_ ?_ hi hN
  ·intro q; rw [spec_sigsOf_L1, if_neg (by simp [len_def]), List.take_length]
  ·intro q i hi ih
   obtain ⟨r, hr, _⟩ := at_lt hi
   rw [spec_sigsOf_L1, if_pos (by simp [len_def]; omega), get_lt hr]
   simp only [Option.bind_some]
   rw [app_ok _ _ _ (by simp; omega) (by simp; omega), w_id (by omega) (by omega), show ((i : Int) + 1) = ((i + 1 : Nat) : Int) by omega]
   simp only [Option.bind_some]
   rw [← ih, take_snoc hr, List.map_append]; rfl
 have := key (Nat.zero_le _) (by omega : n.routines.length - 0 < N)
 rw [show ((0 : Nat) : Int) = 0 from rfl, List.take_zero, List.map_nil] at this
 unfold spec_sigsOf
 rw [this]; rfl
theorem nsigs_list {n : RNormal} (hl : n.routines.length ≤ 1048576) {N : Nat} (hN : 2000000 ≤ N) : impl_normalSigs_L1 n N 0 [] = some (sgN n).funcs := by
 have key : ∀ {N i : Nat}, i ≤ n.routines.length → n.routines.length - i < N → impl_normalSigs_L1 n N i ((n.routines.take i).map fun r => (⟨r.params, r.lent, r.result⟩ : RSignature)) = some (sgN n).funcs := by
  intro N i hi hN
  refine loop_ind n.routines.length (fun N i => impl_normalSigs_L1 n N i ((n.routines.take i).map fun r => (⟨r.params, r.lent, r.result⟩ : RSignature)) = some (sgN n).funcs) ?_ ?_ hi hN
  ·intro q; rw [impl_normalSigs_L1, if_neg (by simp [len_def]), List.take_length]; rfl
  ·intro q i hi ih
   obtain ⟨r, hr, _⟩ := at_lt hi
   rw [impl_normalSigs_L1, if_pos (by simp [len_def]; omega), get_lt hr]
   simp only [Option.bind_some]
   rw [app_ok _ _ _ (by simp; omega) (by simp; omega), w_id (by omega) (by omega), show ((i : Int) + 1) = ((i + 1 : Nat) : Int) by omega]
   simp only [Option.bind_some]
   rw [← ih, take_snoc hr, List.map_append]; rfl
 have := key (Nat.zero_le _) (by omega : n.routines.length - 0 < N)
 simpa using this
def lentR (r : RRoutine) : Bool := allAt (lentB r.params r.lent) 0 r.lent
def nsB (n : RNormal) : Bool := decide (n.routines.length ≤ 4) && (sigsB n.decls (n.routines.map fun r => (r.params, r.result)) && n.routines.all lentR)
theorem spec_nsigs {n : RNormal} (S : NSmall n) {N : Nat} (hN : 2000000 ≤ N) : spec_validNormalSigs N n = some (nsB n) := by
 have hl := S.rlen
 unfold spec_validNormalSigs nsB
 have L := all_loop (l := n.routines) (spec_validNormalSigs_L1 N n) (fun _ r => lentR r) (fun q => by rw [spec_validNormalSigs_L1, if_neg (by simp [len_def])]) (fun q i r hi => by
  have hil := (List.getElem?_eq_some_iff.1 hi).1
  obtain ⟨z1, z2, z3⟩ := S.rz (List.mem_of_getElem? hi)
  rw [spec_validNormalSigs_L1, if_pos (by simp [len_def]; omega), get_lt hi]
  simp only [Option.bind_some]
  rw [spec_validLent_eq z1 z2 hN, w_id (by omega) (by omega), show ((i : Int) + 1) = ((i + 1 : Nat) : Int) by omega]
  simp only [Option.bind_some]
  unfold lentR
  cases allAt (lentB r.params r.lent) 0 r.lent <;> rfl) (by omega : n.routines.length < N)
 rw [allAt_all] at L
 have e1 : (n.routines.map rtF).map (fun f => (f.params, f.result)) = n.routines.map fun r => (r.params, r.result) := by rw [List.map_map]; rfl
 rw [sigsOf_list hl hN, L, cont_all]
 simp only [Option.bind_some]
 rw [spec_validSigs_eq (p := ⟨n.decls, n.routines.map rtF⟩) S.decls (by simpa using hl) (fun f hf => by obtain ⟨r, hr, rfl⟩ := List.mem_map.1 hf; exact (S.rz hr).1) hN, e1]
 have e4 : decide ((4 : Int) < Sh.len n.routines) = !decide (n.routines.length ≤ 4) := by rw [← decide_not]; exact decide_eq_decide.2 (by rw [len_def]; omega)
 rw [e4]
 simp only [Option.bind_some]
 cases decide (n.routines.length ≤ 4) <;> cases sigsB n.decls (n.routines.map fun r => (r.params, r.result)) <;> cases n.routines.all lentR <;> rfl
theorem impl_nsigs {n : RNormal} (S : NSmall n) {N : Nat} (hN : 2000000 ≤ N) : ∃ q, impl_normalSigs N n = some (q, nsB n) ∧ (nsB n = true → q = sgN n) := by
 have hl := S.rlen
 unfold impl_normalSigs nsB
 have e4 : decide ((4 : Int) < Sh.len n.routines) = !decide (n.routines.length ≤ 4) := by rw [← decide_not]; exact decide_eq_decide.2 (by rw [len_def]; omega)
 rw [e4, nsigs_list hl hN]
 simp only [Option.bind_some]
 rw [impl_validSigs_eq S.decls (by rw [sgN_len]; exact hl) (fun f hf => by obtain ⟨r, hr, rfl⟩ := List.mem_map.1 (show f ∈ n.routines.map _ from hf); exact ⟨(S.rz hr).1, (S.rz hr).2.1⟩) hN]
 have e1 : ((sgN n).funcs.map fun f => (f.params, f.result)) = n.routines.map fun r => (r.params, r.result) := by
  show (n.routines.map _).map _ = _
  rw [List.map_map]; rfl
 have e2 : ((sgN n).funcs.all fun f => allAt (lentB f.params f.lent) 0 f.lent) = n.routines.all lentR := by
  show (n.routines.map _).all _ = _
  rw [List.all_map]; rfl
 rw [e1, e2]
 cases h4 : decide (n.routines.length ≤ 4) with
 | false => exact ⟨⟨[], []⟩, rfl, fun h => by simp at h⟩
 | true => exact ⟨sgN n, rfl, fun _ => rfl⟩
def bodyN (T : List Int → Block → Int) (r : RRoutine) : Bool := decide (nst r.body ≤ 600) && decide (T r.params r.body = r.result)
theorem ValidNormal_both {n : RNormal} (S : NSmall n) {N : Nat} (hN : 2000000 ≤ N) : ∃ b, spec_validNormal N n = some b ∧ impl_ValidNormal N n = some b := by
 have hl := S.rlen
 obtain ⟨q, h1, h2⟩ := impl_nsigs S hN
 unfold spec_validNormal impl_ValidNormal
 rw [spec_nsigs S hN, h1]
 simp only [Option.bind_some]
 cases hs : nsB n with
 | false => exact ⟨false, rfl, rfl⟩
 | true =>
  have hq := h2 hs
  subst hq
  have SO : NSig n := by
   unfold nsB at hs
   simp only [Bool.and_eq_true] at hs
   have := SigOK.of (p := ⟨n.decls, n.routines.map rtF⟩) (by
    rw [show List.map (fun f : RFunc => (f.params, f.result)) (n.routines.map rtF) = n.routines.map fun r => (r.params, r.result) by rw [List.map_map]; rfl]
    exact hs.2.1)
   exact this
  obtain ⟨T, hT⟩ := blockType_F SO hN 601
  have hty : ∀ r ∈ n.routines, nst r.body ≤ 600 → spec_blockType N n r.params r.body = some (T r.params r.body) ∧ impl_signatures_blockType N (sgN n) r.params r.body = some (T r.params r.body) := fun r hr he => by
   obtain ⟨q1, q2, q3⟩ := SO.funs (rtF r) (List.mem_map_of_mem hr)
   have q1' : r.params.length ≤ 3 := q1
   obtain ⟨z1, z2, z3⟩ := hT r.params r.body (by omega) ⟨(S.inn.routines.1 r hr).body, (S.rz hr).2.2, by omega, q2⟩ N N (by omega) (by omega)
   exact ⟨z1, z2⟩
  have L1 := all_loop (l := n.routines) (spec_validNormal_L1 N n) (fun _ r => bodyN T r) (fun q => by rw [spec_validNormal_L1, if_neg (by simp [len_def])]) (fun q i r hi => by
   have hil := (List.getElem?_eq_some_iff.1 hi).1
   have hr := List.mem_of_getElem? hi
   rw [spec_validNormal_L1, if_pos (by simp [len_def]; omega), get_lt hi]
   simp only [Option.bind_some]
   rw [spec_stepsOf_eq (S.rz hr).2.2 hN, w_id (by omega) (by omega), show ((i : Int) + 1) = ((i + 1 : Nat) : Int) by omega]
   simp only [Option.bind_some]
   unfold bodyN
   by_cases he : nst r.body ≤ 600
   ·rw [if_pos he, if_neg (by simp), (hty r hr he).1]
    by_cases hq : T r.params r.body = r.result <;> simp [he, hq]
   ·rw [if_neg he]
    simp [he]) (by omega : n.routines.length < N)
  have L2 := all_loop (l := n.routines) (impl_ValidNormal_L1 N n (sgN n, true)) (fun _ r => bodyN T r) (fun q => by rw [impl_ValidNormal_L1, if_neg (by simp [len_def])]) (fun q i r hi => by
   have hil := (List.getElem?_eq_some_iff.1 hi).1
   have hr := List.mem_of_getElem? hi
   rw [impl_ValidNormal_L1, if_pos (by simp [len_def]; omega), get_lt hi]
   simp only [Option.bind_some]
   rw [impl_StepsOf_eq (S.rz hr).2.2 hN, w_id (by omega) (by omega), show ((i : Int) + 1) = ((i + 1 : Nat) : Int) by omega]
   simp only [Option.bind_some]
   unfold bodyN
   by_cases he : nst r.body ≤ 600
   ·rw [if_pos he, if_neg (by simp), (hty r hr he).2]
    by_cases hq : T r.params r.body = r.result <;> simp [he, hq]
   ·rw [if_neg he]
    simp [he]) (by omega : n.routines.length < N)
  rw [allAt_all] at L1 L2
  refine ⟨n.routines.all (bodyN T), ?_, ?_⟩
  ·simp only [Bool.not_true, Bool.false_eq_true, if_false]
   rw [L1, cont_all]
   cases n.routines.all (bodyN T) <;> rfl
  ·simp only [Bool.not_true, Bool.false_eq_true, if_false]
   rw [L2, cont_all]
   cases n.routines.all (bodyN T) <;> rfl
end RC



namespace RC
open Go
end RC

