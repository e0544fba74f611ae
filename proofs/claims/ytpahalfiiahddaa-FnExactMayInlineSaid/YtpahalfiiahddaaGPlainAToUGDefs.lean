import Derived.Test.YtpahalfiiahddaaGEncToEncB
import Derived.Test.YtpahalfiiahddaaGHADefsToMIDefs
import Derived.Test.YtpahalfiiahddaaGEncCToSSDefs

namespace RC
open Go
theorem w_id {n : Int} (h1 : -9223372036854775808 ≤ n) (h2 : n ≤ 9223372036854775807) : Sh.w n = n := Abs.wrap_i64 h1 h2
theorem len_def {α : Type} (l : List α) : Sh.len l = (l.length : Int) := rfl
theorem get_nat {α : Type} (l : List α) (i : Nat) : Sh.get l (i : Int) = l[i]? := by
 unfold Sh.get; rw [if_pos (Int.natCast_nonneg i)]; simp
theorem get_lt {α : Type} {l : List α} {i : Nat} {x : α} (h : l[i]? = some x) : Sh.get l (i : Int) = some x := by rw [get_nat, h]
theorem get_pos {α : Type} {l : List α} {j : Int} (h0 : 0 ≤ j) (h1 : j < l.length) : ∃ x, Sh.get l j = some x ∧ l[j.toNat]? = some x := by
 have h : l[j.toNat]? = some (l[j.toNat]'(by omega)) := List.getElem?_eq_getElem (by omega)
 exact ⟨_, by unfold Sh.get; rw [if_pos h0, h], h⟩
theorem get_pos' {α : Type} {l : List α} {j : Int} (h0 : 0 ≤ j) : Sh.get l j = l[j.toNat]? := by unfold Sh.get; rw [if_pos h0]
theorem put_nat {α : Type} (l : List α) (i : Nat) (x : α) : Sh.put l (i : Int) x = l.set i x := by simp [Sh.put]
theorem mk_ok {α : Type} (x : α) (n b : Nat) (h : n * b ≤ 281474976710656) (h2 : n ≤ 9223372036854775807) : Sh.mk x (n : Int) b = some (List.replicate n x) := by
 unfold Sh.mk
 rw [if_pos ⟨by omega, by rw [← Int.natCast_mul]; omega, by omega⟩]; simp
theorem app_ok {α : Type} (l m : List α) (b : Nat) (h : (l.length + m.length) * b ≤ 140737488355328) (h2 : l.length + m.length ≤ 9223372036854775807) : Sh.app l m b = some (l ++ m) := by
 unfold Sh.app; rw [if_pos ⟨h, h2⟩]
theorem hi_ok {α : Type} {l : List α} {j : Nat} (h : j ≤ l.length) : Sh.hi l (j : Int) = some (l.take j) := by
 unfold Sh.hi; rw [if_pos ⟨by omega, by omega⟩]; simp
theorem loop_ind (len : Nat) (P : Nat → Nat → Prop) (h0 : ∀ n, P (n + 1) len) (hs : ∀ n i, i < len → P n (i + 1) → P (n + 1) i) : ∀ {N i : Nat}, i ≤ len → len - i < N → P N i := by
 intro N i hi hN
 obtain ⟨k, hk⟩ : ∃ k, len - i = k := ⟨_, rfl⟩
 induction k generalizing N i with
 | zero =>
  obtain ⟨n, rfl⟩ : ∃ n, N = n + 1 := ⟨N - 1, by omega⟩
  have : i = len := by omega
  subst this; exact h0 n
 | succ k ih =>
  obtain ⟨n, rfl⟩ : ∃ n, N = n + 1 := ⟨N - 1, by omega⟩
  exact hs n i (by omega) (ih (by omega) (by omega) (by omega))
theorem at_lt {α : Type} {l : List α} {i : Nat} (h : i < l.length) : ∃ x, l[i]? = some x ∧ x ∈ l := ⟨l[i], List.getElem?_eq_getElem h, List.getElem_mem h⟩
theorem take_snoc {α : Type} {l : List α} {j : Nat} {x : α} (h : l[j]? = some x) : l.take (j + 1) = l.take j ++ [x] := by rw [List.take_add_one, h]; rfl
theorem drop_cons {α : Type} {l : List α} {j : Nat} {x : α} (h : l[j]? = some x) : l.drop j = x :: l.drop (j + 1) := by
 obtain ⟨hj, rfl⟩ := List.getElem?_eq_some_iff.1 h
 exact List.drop_eq_getElem_cons hj
def fsum (h : List Cell) : Nat := (h.map fun c => c.fields.length).sum
def hsize (h : List Cell) : Nat := h.length + fsum h
end RC



namespace RC
open Go
def allAt {α : Type} (f : Nat → α → Bool) : Nat → List α → Bool
 | _, [] => true
 | k, x :: r => f k x && allAt f (k + 1) r
theorem allAt_congr {α : Type} {f g : Nat → α → Bool} : ∀ (l : List α) (k : Nat), (∀ (i : Nat) x, l[i]? = some x → f (k + i) x = g (k + i) x) → allAt f k l = allAt g k l
 | [], _, _ => rfl
 | x :: r, k, h => by
  have h0 := h 0 x rfl
  rw [Nat.add_zero] at h0
  have h1 := allAt_congr r (k + 1) fun i y hy => (show k + (i + 1) = k + 1 + i by omega) ▸ h (i + 1) y hy
  rw [allAt, allAt, h0, h1]
theorem allAt_all {α : Type} {p : α → Bool} : ∀ (l : List α) (k : Nat), allAt (fun _ x => p x) k l = l.all p
 | [], _ => rfl
 | x :: r, k => by rw [allAt, allAt_all r (k + 1), List.all_cons]
theorem all_loop {α : Type} {l : List α} (L : Nat → Int → Option (Bool ⊕ Unit)) (f : Nat → α → Bool) (h0 : ∀ n, L (n + 1) (l.length : Int) = some (.inr ()))
  (hs : ∀ n (i : Nat) x, l[i]? = some x → L (n + 1) (i : Int) = if f i x = true then L n ((i + 1 : Nat) : Int) else some (.inl false)) {N : Nat} (hN : l.length < N) :
  L N 0 = some (if allAt f 0 l = true then .inr () else .inl false) := by
 have key : ∀ {N i : Nat}, i ≤ l.length → l.length - i < N → L N (i : Int) = some (if allAt f i (l.drop i) = true then .inr () else .inl false) := by
  intro N i hi hN
  refine loop_ind l.length (fun N i => L N (i : Int) = some (if allAt f i (l.drop i) = true then .inr () else .inl false)) ?_ ?_ hi hN
  ·intro n; rw [h0 n]; simp [allAt]
  ·intro n i hi ih
   obtain ⟨x, hx, _⟩ := at_lt hi
   rw [hs n i x hx, ih, drop_cons hx, allAt]
   cases h : f i x <;> simp
 have := key (Nat.zero_le _) (by omega : l.length - 0 < N)
 simpa using this
theorem cont_all {β : Type} {b : Bool} {g : Bool → β} {K : Unit → Option β} : Sh.cont (some (if b = true then Sum.inr () else Sum.inl false)) g K = if b = true then K () else some (g false) := by
 cases b <;> rfl
theorem sl_take {α : Type} {l : List α} {j : Nat} (h : j ≤ l.length) (h2 : l.length ≤ 9223372036854775807) : Sh.sl l 0 (j : Int) = some (l.take j) := by
 unfold Sh.sl
 rw [if_pos ⟨by omega, by omega, by omega⟩]; simp
end RC


namespace RC
open Go
theorem szIntS_eq {l : List Int} {left : Int} (h0 : 0 ≤ left) (h1 : left ≤ 1048576) (hl : l.length ≤ 9223372036854775807) : laws_szIntS l left = some (if left - l.length < 0 then -1 else left - l.length) := by
 unfold laws_szIntS
 rw [len_def, w_id (by omega) (by omega)]
 by_cases h : left - l.length < 0 <;> simp [h]
theorem toIntS_L1_eq {l : List Int} (hl : l.length ≤ 1048576) {N i : Nat} (hi : i ≤ l.length) (hN : l.length - i < N) : ∀ m : List Int, m.length = l.length → m.take i = l.take i → laws_toIntS_L1 l N i m = some l := by
 refine loop_ind l.length (fun N i => ∀ m : List Int, m.length = l.length → m.take i = l.take i → laws_toIntS_L1 l N i m = some l) ?_ ?_ hi hN
 ·intro n m hm ht
  rw [laws_toIntS_L1, if_neg (by simp [len_def])]
  rw [List.take_of_length_le (by omega), List.take_length] at ht
  rw [ht]
 ·intro n i hi ih m hm ht
  obtain ⟨x, hx, _⟩ := at_lt hi
  obtain ⟨y, hy, _⟩ := at_lt (l := m) (i := i) (by omega)
  rw [laws_toIntS_L1, if_pos (by simp [len_def]; omega), get_lt hx]
  simp only [Option.bind_some]
  rw [get_lt hy]
  simp only [Option.bind_some]
  rw [w_id (by omega) (by omega), put_nat, show ((i : Int) + 1) = ((i + 1 : Nat) : Int) by omega]
  refine ih _ (by simp [hm]) ?_
  rw [take_snoc hx, take_snoc (x := x) (by rw [List.getElem?_set]; simp; omega), List.take_set_of_le (Nat.le_refl _), ht]
theorem toIntS_eq {l : List Int} (hl : l.length ≤ 1048576) {N : Nat} (hN : 2000000 ≤ N) : laws_toIntS N l = some l := by
 unfold laws_toIntS
 rw [len_def, mk_ok 0 l.length 8 (by omega) (by omega)]
 simp only [Option.bind_some]
 have := toIntS_L1_eq hl (Nat.zero_le _) (by omega : l.length - 0 < N) (List.replicate l.length 0) (by simp) (by simp)
 rw [show ((0 : Nat) : Int) = 0 from rfl] at this
 rw [this]; rfl
theorem eqIntS_L1_eq {l : List Int} (hl : l.length ≤ 1048576) {N i : Nat} (hi : i ≤ l.length) (hN : l.length - i < N) : laws_eqIntS_L1 l l N i = some (Sum.inr ()) := by
 refine loop_ind l.length (fun N i => laws_eqIntS_L1 l l N i = some (Sum.inr ())) ?_ ?_ hi hN
 ·intro n
  rw [laws_eqIntS_L1, if_neg (by simp [len_def])]
 ·intro n i hi ih
  obtain ⟨x, hx, _⟩ := at_lt hi
  rw [laws_eqIntS_L1, if_pos (by simp [len_def]; omega), get_lt hx]
  simp only [Option.bind_some]
  rw [w_id (by omega) (by omega), show ((i : Int) + 1) = ((i + 1 : Nat) : Int) by omega]
  simpa using ih
theorem eqIntS_eq {l : List Int} (hl : l.length ≤ 1048576) {N : Nat} (hN : 2000000 ≤ N) : laws_eqIntS N l l = some true := by
 unfold laws_eqIntS
 have := eqIntS_L1_eq hl (Nat.zero_le _) (by omega : l.length - 0 < N)
 rw [show ((0 : Nat) : Int) = 0 from rfl] at this
 simp [this]
end RC


namespace RC
open Go
def liveW (h : List Cell) (w : Int) : Bool := decide (1000 ≤ w) && (match h[(w - 1000).toNat]? with | some c => decide (0 < c.count) | none => false)
theorem inRange_eq (a b c : Int) : spec_inRange a b c = some (decide (b ≤ a) && decide (a ≤ c)) := by
 unfold spec_inRange
 by_cases h : b ≤ a <;> simp [h]
end RC



namespace RC
open Go
def tyB (D : List RDecl) (t : Int) : Bool := decide (0 ≤ t) && decide (t ≤ (D.length : Int))
theorem inRange_ty {D : List RDecl} {x : Int} : spec_inRange x 0 (Sh.len D) = some (tyB D x) := by rw [inRange_eq]; rfl
theorem spec_allTypes_eq {D : List RDecl} {l : List Int} (hl : l.length ≤ 1048576) {N : Nat} (hN : l.length < N) : spec_allTypes N D l = some (l.all (tyB D)) := by
 unfold spec_allTypes
 rw [all_loop (l := l) (spec_allTypes_L1 D l) (fun _ x => tyB D x) (fun n => by rw [spec_allTypes_L1, if_neg (by simp [len_def])]) (fun n i x hx => ?_) hN, cont_all, allAt_all]
 ·cases l.all (tyB D) <;> rfl
 ·have hi := (List.getElem?_eq_some_iff.1 hx).1
  rw [spec_allTypes_L1, if_pos (by simp [len_def]; omega), get_lt hx]
  simp only [Option.bind_some]
  rw [inRange_ty, w_id (by omega) (by omega), show ((i : Int) + 1) = ((i + 1 : Nat) : Int) by omega]
  simp only [Option.bind_some]
  cases tyB D x <;> rfl
theorem impl_isType_eq {D : List RDecl} {t : Int} : impl_isType D t = some (tyB D t) := by
 unfold impl_isType tyB
 by_cases h : 0 ≤ t <;> by_cases h2 : t ≤ (D.length : Int) <;> simp [h, h2, len_def]
theorem impl_allTypes_eq {D : List RDecl} {l : List Int} (hl : l.length ≤ 1048576) {N : Nat} (hN : l.length < N) : impl_allTypes N D l = some (l.all (tyB D)) := by
 unfold impl_allTypes
 rw [all_loop (l := l) (impl_allTypes_L1 D l) (fun _ x => tyB D x) (fun n => by rw [impl_allTypes_L1, if_neg (by simp [len_def])]) (fun n i x hx => ?_) hN, cont_all, allAt_all]
 ·cases l.all (tyB D) <;> rfl
 ·have hi := (List.getElem?_eq_some_iff.1 hx).1
  rw [impl_allTypes_L1, if_pos (by simp [len_def]; omega), get_lt hx]
  simp only [Option.bind_some]
  rw [impl_isType_eq, w_id (by omega) (by omega), show ((i : Int) + 1) = ((i + 1 : Nat) : Int) by omega]
  simp only [Option.bind_some]
  cases tyB D x <;> rfl
def conB (D : List RDecl) (c : RCon) : Bool := decide (c.fields.length ≤ 3) && c.fields.all (tyB D)
def sameArrow (a b : RDecl) : Bool := decide (a.cons.length = 0) && (decide (a.from_ = b.from_) && decide (a.to = b.to))
def declB (D : List RDecl) (i : Nat) (d : RDecl) : Bool :=
 if 0 < d.cons.length then (decide (d.cons.length ≤ 3) && (decide (d.from_ = 0) && decide (d.to = 0))) && d.cons.all (conB D)
 else (D.take i).all (fun e => !sameArrow e d) && (tyB D d.from_ && tyB D d.to)
def declI (D : List RDecl) (i : Nat) (d : RDecl) : Bool :=
 ((tyB D d.from_ && (tyB D d.to && (decide (d.cons.length ≤ 3) && (!(decide (0 < d.cons.length) && (!decide (d.from_ = 0) || !decide (d.to = 0))))))) && d.cons.all (conB D)) && (D.take i).all (fun e => !(decide (d.cons.length = 0) && sameArrow e d))
theorem decl_same (D : List RDecl) (i : Nat) (d : RDecl) : declI D i d = declB D i d := by
 unfold declI declB
 by_cases h : 0 < d.cons.length
 ·have h0 : ¬ d.cons.length = 0 := by omega
  have ha : (D.take i).all (fun e => !(decide (d.cons.length = 0) && sameArrow e d)) = true := by simp [h0]
  rw [if_pos h, ha]
  by_cases h1 : d.from_ = 0 <;> by_cases h2 : d.to = 0 <;> simp [h, h1, h2, tyB]
 ·have h0 : d.cons.length = 0 := by omega
  have hc : d.cons = [] := List.eq_nil_of_length_eq_zero h0
  rw [if_neg h]
  simp only [hc, h0, List.length_nil, List.all_nil, decide_true, Bool.true_and, Bool.and_true]
  cases tyB D d.from_ <;> cases tyB D d.to <;> simp
structure DSmall (D : List RDecl) : Prop where
 len : D.length ≤ 1048576
 cons : ∀ d ∈ D, d.cons.length ≤ 1048576
 flds : ∀ d ∈ D, ∀ c ∈ d.cons, c.fields.length ≤ 1048576
theorem spec_validDecl_eq {D : List RDecl} (hD : DSmall D) {i : Nat} {d : RDecl} (hd : D[i]? = some d) {N : Nat} (hN : 2000000 ≤ N) : spec_validDecl N D i = some (declB D i d) := by
 have hm := List.mem_of_getElem? hd
 have hi := (List.getElem?_eq_some_iff.1 hd).1
 have hlen := hD.len
 have hc := hD.cons d hm
 unfold spec_validDecl declB
 rw [get_lt hd]
 simp only [Option.bind_some]
 by_cases h : 0 < d.cons.length
 ·rw [if_pos (by simp [len_def]; omega), if_pos h]
  rw [all_loop (l := d.cons) (spec_validDecl_L1 N d D) (fun _ c => conB D c) (fun n => by rw [spec_validDecl_L1, if_neg (by simp [len_def])]) (fun n j c hj => ?_) (by omega), cont_all, allAt_all]
  ·simp only [len_def]
   by_cases h3 : d.cons.length ≤ 3
   ·have e3 : ¬ (3 : Int) < (d.cons.length : Int) := by omega
    generalize d.cons.all (conB D) = z
    cases z <;> by_cases h1 : d.from_ = 0 <;> by_cases h2 : d.to = 0 <;> simp [h1, h2, h3, e3]
   ·have e3 : (3 : Int) < (d.cons.length : Int) := by omega
    simp [h3, e3]
  ·have hj' := (List.getElem?_eq_some_iff.1 hj).1
   have hf := hD.flds d hm c (List.mem_of_getElem? hj)
   rw [spec_validDecl_L1, if_pos (by simp [len_def]; omega), get_lt hj]
   simp only [Option.bind_some]
   rw [spec_allTypes_eq hf (by omega), w_id (by omega) (by omega), show ((j : Int) + 1) = ((j + 1 : Nat) : Int) by omega]
   unfold conB
   by_cases h3 : c.fields.length ≤ 3
   ·have e3 : ¬ (3 : Int) < (c.fields.length : Int) := by omega
    simp only [len_def]
    cases c.fields.all (tyB D) <;> simp [h3, e3]
   ·have e3 : (3 : Int) < (c.fields.length : Int) := by omega
    simp [h3, e3, len_def]
 ·have h0 : d.cons.length = 0 := by omega
  have e0 : ¬ decide ((0 : Int) < Sh.len d.cons) = true := by rw [len_def, h0]; simp
  rw [if_neg e0, if_neg h]
  have hlt : (D.take i).length = i := by simp; omega
  rw [all_loop (l := D.take i) (spec_validDecl_L2 d D i) (fun _ e => !sameArrow e d) (fun n => by rw [spec_validDecl_L2, if_neg (by simp; omega)]) (fun n j e hj => ?_) (by omega), cont_all, allAt_all]
  ·rw [inRange_ty, inRange_ty]
   simp only [Option.bind_some]
   cases (D.take i).all (fun e => !sameArrow e d) <;> cases tyB D d.from_ <;> simp
  ·have hj' := (List.getElem?_eq_some_iff.1 hj).1
   have hje : D[j]? = some e := by rw [List.getElem?_take] at hj; split at hj <;> first | exact hj | cases hj
   rw [spec_validDecl_L2, if_pos (by simp; omega), get_lt hje]
   simp only [Option.bind_some]
   rw [w_id (by omega) (by omega), show ((j : Int) + 1) = ((j + 1 : Nat) : Int) by omega]
   unfold sameArrow
   simp only [len_def]
   by_cases a0 : e.cons.length = 0 <;> by_cases a1 : e.from_ = d.from_ <;> by_cases a2 : e.to = d.to <;> simp [a0, a1, a2]
def typesB (D : List RDecl) : Bool := decide (D.length ≤ 4) && allAt (declB D) 0 D
theorem spec_validTypes_eq {D : List RDecl} (hD : DSmall D) {N : Nat} (hN : 2000000 ≤ N) : spec_validTypes N D = some (typesB D) := by
 have hlen := hD.len
 unfold spec_validTypes typesB
 rw [all_loop (l := D) (spec_validTypes_L1 N D) (declB D) (fun n => by rw [spec_validTypes_L1, if_neg (by simp [len_def])]) (fun n i d hd => ?_) (by omega), cont_all]
 ·simp only [len_def]
  by_cases h : D.length ≤ 4
  ·have e4 : ¬ (4 : Int) < (D.length : Int) := by omega
   cases allAt (declB D) 0 D <;> simp [h, e4]
  ·have e4 : (4 : Int) < (D.length : Int) := by omega
   simp [h, e4]
 ·have hi := (List.getElem?_eq_some_iff.1 hd).1
  rw [spec_validTypes_L1, if_pos (by simp [len_def]; omega), spec_validDecl_eq hD hd hN]
  simp only [Option.bind_some]
  rw [w_id (by omega) (by omega), show ((i : Int) + 1) = ((i + 1 : Nat) : Int) by omega]
  cases declB D i d <;> rfl
theorem impl_ValidTypes_eq {D : List RDecl} (hD : DSmall D) {N : Nat} (hN : 2000000 ≤ N) : impl_ValidTypes N D = some (typesB D) := by
 have hlen := hD.len
 unfold impl_ValidTypes typesB
 rw [← allAt_congr (f := declI D) D 0 (fun i d _ => decl_same D _ d)]
 rw [all_loop (l := D) (impl_ValidTypes_L1 N D) (declI D) (fun n => by rw [impl_ValidTypes_L1, if_neg (by simp [len_def])]) (fun n i d hd => ?_) (by omega), cont_all]
 ·simp only [len_def]
  by_cases h : D.length ≤ 4
  ·have e4 : ¬ (4 : Int) < (D.length : Int) := by omega
   cases allAt (declI D) 0 D <;> simp [h, e4]
  ·have e4 : (4 : Int) < (D.length : Int) := by omega
   simp [h, e4]
 ·have hi := (List.getElem?_eq_some_iff.1 hd).1
  have hm := List.mem_of_getElem? hd
  have hc := hD.cons d hm
  have l2 : impl_ValidTypes_L2 N d D N 0 = some (if d.cons.all (conB D) = true then .inr () else .inl false) := by
   rw [all_loop (l := d.cons) (impl_ValidTypes_L2 N d D) (fun _ c => conB D c) (fun n => by rw [impl_ValidTypes_L2, if_neg (by simp [len_def])]) (fun n j c hj => ?_) (by omega), allAt_all]
   have hj' := (List.getElem?_eq_some_iff.1 hj).1
   have hf := hD.flds d hm c (List.mem_of_getElem? hj)
   rw [impl_ValidTypes_L2, if_pos (by simp [len_def]; omega), get_lt hj]
   simp only [Option.bind_some]
   rw [impl_allTypes_eq hf (by omega), w_id (by omega) (by omega), show ((j : Int) + 1) = ((j + 1 : Nat) : Int) by omega]
   unfold conB
   by_cases h3 : c.fields.length ≤ 3
   ·have e3 : ¬ (3 : Int) < (c.fields.length : Int) := by omega
    simp only [len_def]
    cases c.fields.all (tyB D) <;> simp [h3, e3]
   ·have e3 : (3 : Int) < (c.fields.length : Int) := by omega
    simp [h3, e3, len_def]
  have hlt : (D.take i).length = i := by simp; omega
  have l3 : impl_ValidTypes_L3 d (D.take i) N 0 = some (if (D.take i).all (fun e => !(decide (d.cons.length = 0) && sameArrow e d)) = true then .inr () else .inl false) := by
   rw [all_loop (l := D.take i) (impl_ValidTypes_L3 d (D.take i)) (fun _ e => !(decide (d.cons.length = 0) && sameArrow e d)) (fun n => by rw [impl_ValidTypes_L3, if_neg (by simp [len_def])]) (fun n j e hj => ?_) (by omega), allAt_all]
   have hj' := (List.getElem?_eq_some_iff.1 hj).1
   rw [impl_ValidTypes_L3, if_pos (by simp only [len_def]; simp; omega), get_lt hj]
   simp only [Option.bind_some]
   rw [w_id (by omega) (by omega), show ((j : Int) + 1) = ((j + 1 : Nat) : Int) by omega]
   unfold sameArrow
   simp only [len_def]
   by_cases b0 : d.cons.length = 0 <;> by_cases a0 : e.cons.length = 0 <;> by_cases a1 : e.from_ = d.from_ <;> by_cases a2 : e.to = d.to <;> simp [a0, a1, a2, b0]
  rw [impl_ValidTypes_L1, if_pos (by simp [len_def]; omega), get_lt hd]
  simp only [Option.bind_some]
  rw [impl_isType_eq, impl_isType_eq, l2, sl_take (by omega) (by omega), w_id (by omega) (by omega), show ((i : Int) + 1) = ((i + 1 : Nat) : Int) by omega]
  simp only [Option.bind_some]
  rw [l3, cont_all, cont_all]
  unfold declI
  simp only [len_def]
  generalize d.cons.all (conB D) = z1
  generalize (D.take i).all (fun e => !(decide (d.cons.length = 0) && sameArrow e d)) = z2
  by_cases h3 : d.cons.length ≤ 3
  ·have e3 : ¬ (3 : Int) < (d.cons.length : Int) := by omega
   by_cases h0 : 0 < d.cons.length
   ·have e0 : (0 : Int) < (d.cons.length : Int) := by omega
    cases tyB D d.from_ <;> cases tyB D d.to <;> cases z1 <;> cases z2 <;> by_cases h1 : d.from_ = 0 <;> by_cases h2 : d.to = 0 <;> simp [h1, h2, h3, e3, h0]
   ·have e0 : ¬ (0 : Int) < (d.cons.length : Int) := by omega
    cases tyB D d.from_ <;> cases tyB D d.to <;> cases z1 <;> cases z2 <;> simp [h3, e3, h0]
  ·have e3 : (3 : Int) < (d.cons.length : Int) := by omega
   cases tyB D d.from_ <;> cases tyB D d.to <;> simp [h3, e3]
end RC



namespace RC
open Go
def lentB (ps ls : List Int) (i : Nat) (v : Int) : Bool :=
 (decide (0 ≤ v) && decide (v < (ps.length : Int))) && (!decide (ps[v.toNat]? = some 0) && !(decide (0 < i) && decide (v ≤ (ls[i - 1]?).getD 0)))
theorem prev_get {ls : List Int} {i : Nat} (h0 : 0 < i) (hi : i < ls.length) : ∃ x, ls[i - 1]? = some x ∧ Sh.get ls (((i : Nat) : Int) - 1) = some x := by
 obtain ⟨x, hx, _⟩ := at_lt (l := ls) (i := i - 1) (by omega)
 exact ⟨x, hx, by rw [show ((i : Int) - 1) = ((i - 1 : Nat) : Int) by omega, get_lt hx]⟩
theorem impl_lent_eq {c : RSignature} (hp : c.params.length ≤ 1048576) (hl : c.lent.length ≤ 1048576) {N : Nat} (hN : 2000000 ≤ N) : impl_validSigs_L2 c N 0 = some (if allAt (lentB c.params c.lent) 0 c.lent = true then .inr () else .inl false) := by
 refine all_loop (l := c.lent) (impl_validSigs_L2 c) (lentB c.params c.lent) (fun n => by rw [impl_validSigs_L2, if_neg (by simp [len_def])]) (fun n i v hv => ?_) (by omega)
 have hi := (List.getElem?_eq_some_iff.1 hv).1
 rw [impl_validSigs_L2, if_pos (by simp [len_def]; omega), get_lt hv]
 simp only [Option.bind_some]
 rw [len_def, w_id (n := (i : Int) + 1) (by omega) (by omega), w_id (n := (i : Int) - 1) (by omega) (by omega), show ((i : Int) + 1) = ((i + 1 : Nat) : Int) by omega]
 unfold lentB
 by_cases h0 : 0 ≤ v
 ·have h0' : ¬ v < 0 := by omega
  by_cases h1 : v < (c.params.length : Int)
  ·have h1' : ¬ (c.params.length : Int) ≤ v := by omega
   obtain ⟨d, e1, e2⟩ := get_pos h0 h1
   rw [e1, e2]
   by_cases hi0 : 0 < i
   ·obtain ⟨x, g1, g2⟩ := prev_get hi0 hi
    rw [g1, g2]
    by_cases hc : d = 0 <;> by_cases hx : v ≤ x <;> simp [h0, h0', h1, h1', hc, hi0, hx]
   ·by_cases hc : d = 0 <;> simp [h0, h0', h1, h1', hc, hi0]
  ·have h1' : (c.params.length : Int) ≤ v := by omega
   simp [h0, h0', h1, h1']
 ·have h0' : v < 0 := by omega
  simp [h0, h0']
def sigB (D : List RDecl) (ps : List Int) (r : Int) : Bool := decide (ps.length ≤ 3) && (ps.all (tyB D) && tyB D r)
theorem spec_sigs_L1_eq {p : RProgram} (hf : p.funcs.length ≤ 1048576) (hp : ∀ f ∈ p.funcs, f.params.length ≤ 1048576) {N : Nat} (hN : 2000000 ≤ N) : spec_validSigs_L1 N p N 0 = some (if (p.funcs.all fun f => sigB p.decls f.params f.result) = true then .inr () else .inl false) := by
 rw [← allAt_all _ 0]
 refine all_loop (l := p.funcs) (spec_validSigs_L1 N p) (fun _ f => sigB p.decls f.params f.result) (fun n => by rw [spec_validSigs_L1, if_neg (by simp [len_def])]) (fun n i f hi => ?_) (by omega)
 have hi' := (List.getElem?_eq_some_iff.1 hi).1
 have hpf := hp f (List.mem_of_getElem? hi)
 rw [spec_validSigs_L1, if_pos (by simp [len_def]; omega), get_lt hi]
 simp only [Option.bind_some]
 rw [spec_allTypes_eq hpf (by omega), inRange_ty, w_id (by omega) (by omega), show ((i : Int) + 1) = ((i + 1 : Nat) : Int) by omega]
 unfold sigB
 simp only [len_def]
 by_cases h3 : f.params.length ≤ 3
 ·have e3 : ¬ (3 : Int) < (f.params.length : Int) := by omega
  generalize f.params.all (tyB p.decls) = z
  cases z <;> cases tyB p.decls f.result <;> simp [h3, e3]
 ·have e3 : (3 : Int) < (f.params.length : Int) := by omega
  simp [h3, e3]
theorem impl_sigs_L1_eq {D : List RDecl} {l : List RSignature} (hf : l.length ≤ 1048576) (hp : ∀ f ∈ l, f.params.length ≤ 1048576 ∧ f.lent.length ≤ 1048576) {N : Nat} (hN : 2000000 ≤ N) : impl_validSigs_L1 N D l N 0 = some (if (l.all fun f => sigB D f.params f.result && allAt (lentB f.params f.lent) 0 f.lent) = true then .inr () else .inl false) := by
 rw [← allAt_all _ 0]
 refine all_loop (l := l) (impl_validSigs_L1 N D l) (fun _ f => sigB D f.params f.result && allAt (lentB f.params f.lent) 0 f.lent) (fun n => by rw [impl_validSigs_L1, if_neg (by simp [len_def])]) (fun n i f hi => ?_) (by omega)
 have hi' := (List.getElem?_eq_some_iff.1 hi).1
 have hpf := hp f (List.mem_of_getElem? hi)
 rw [impl_validSigs_L1, if_pos (by simp [len_def]; omega), get_lt hi]
 simp only [Option.bind_some]
 rw [impl_allTypes_eq hpf.1 (by omega), impl_isType_eq, impl_lent_eq hpf.1 hpf.2 hN, cont_all, w_id (by omega) (by omega), show ((i : Int) + 1) = ((i + 1 : Nat) : Int) by omega]
 unfold sigB
 simp only [len_def]
 generalize allAt (lentB f.params f.lent) 0 f.lent = y
 by_cases h3 : f.params.length ≤ 3
 ·have e3 : ¬ (3 : Int) < (f.params.length : Int) := by omega
  generalize f.params.all (tyB D) = z
  cases z <;> cases tyB D f.result <;> cases y <;> simp [h3, e3]
 ·have e3 : (3 : Int) < (f.params.length : Int) := by omega
  simp [h3, e3]
end RC
namespace RC
open Go
def first0 (D : List (List Int × Int)) : Bool := match D with | [] => false | (ps, r) :: _ => decide (ps.length = 0) && decide (r = 0)
def sigsB (D : List RDecl) (l : List (List Int × Int)) : Bool := typesB D && ((decide (1 ≤ l.length) && decide (l.length ≤ 4)) && (l.all (fun s => sigB D s.1 s.2) && first0 l))
theorem spec_validSigs_eq {p : RProgram} (hD : DSmall p.decls) (hf : p.funcs.length ≤ 1048576) (hp : ∀ f ∈ p.funcs, f.params.length ≤ 1048576) {N : Nat} (hN : 2000000 ≤ N) : spec_validSigs N p = some (sigsB p.decls (p.funcs.map fun f => (f.params, f.result))) := by
 unfold spec_validSigs sigsB
 rw [spec_validTypes_eq hD hN, spec_sigs_L1_eq hf hp hN, cont_all, inRange_eq]
 simp only [Option.bind_some, List.length_map, List.all_map, Function.comp_def]
 cases typesB p.decls with
 | false => simp
 | true =>
  cases hl : p.funcs with
  | nil => simp [len_def]
  | cons f r =>
   have e0 : Sh.get (f :: r) 0 = some f := rfl
   rw [e0]
   generalize (f :: r).all (fun f => sigB p.decls f.params f.result) = z
   simp only [List.map_cons, first0]
   have q1 : decide ((1 : Int) ≤ Sh.len (f :: r)) = true := decide_eq_true (by rw [len_def, List.length_cons]; omega)
   have q2 : decide (1 ≤ (f :: r).length) = true := by simp
   have q3 : decide (Sh.len (f :: r) ≤ 4) = decide ((f :: r).length ≤ 4) := decide_eq_decide.2 (by rw [len_def]; omega)
   have q4 : decide (Sh.len f.params = 0) = decide (f.params.length = 0) := decide_eq_decide.2 (by rw [len_def]; omega)
   simp only [q1, q2, q3, q4, Option.bind_some]
   cases decide ((f :: r).length ≤ 4) <;> cases z <;> by_cases a1 : f.params.length = 0 <;> by_cases a2 : f.result = 0 <;> simp [a1, a2]
theorem impl_validSigs_eq {D : List RDecl} {l : List RSignature} (hD : DSmall D) (hf : l.length ≤ 1048576) (hp : ∀ f ∈ l, f.params.length ≤ 1048576 ∧ f.lent.length ≤ 1048576) {N : Nat} (hN : 2000000 ≤ N) :
  impl_validSigs N D l = some (sigsB D (l.map fun f => (f.params, f.result)) && l.all (fun f => allAt (lentB f.params f.lent) 0 f.lent)) := by
 unfold impl_validSigs sigsB
 rw [impl_ValidTypes_eq hD hN, impl_sigs_L1_eq hf hp hN, cont_all]
 have hsplit : (l.all fun f => sigB D f.params f.result && allAt (lentB f.params f.lent) 0 f.lent) = ((l.all fun f => sigB D f.params f.result) && (l.all fun f => allAt (lentB f.params f.lent) 0 f.lent)) := by
  clear hf hp
  induction l with
  | nil => rfl
  | cons f r ih =>
   simp only [List.all_cons, ih]
   cases sigB D f.params f.result <;> cases allAt (lentB f.params f.lent) 0 f.lent <;> simp
 rw [hsplit]
 simp only [Option.bind_some, List.length_map, List.all_map, Function.comp_def]
 cases typesB D with
 | false => simp
 | true =>
  cases hl : l with
  | nil => simp [len_def]
  | cons f r =>
   have e0 : Sh.get (f :: r) 0 = some f := rfl
   rw [e0]
   generalize (f :: r).all (fun f => sigB D f.params f.result) = z
   generalize (f :: r).all (fun f => allAt (lentB f.params f.lent) 0 f.lent) = y
   simp only [List.map_cons, first0]
   have q1 : decide (Sh.len (f :: r) < 1) = false := decide_eq_false (by rw [len_def, List.length_cons]; omega)
   have q2 : decide (1 ≤ (f :: r).length) = true := by simp
   have q3 : decide ((4 : Int) < Sh.len (f :: r)) = !decide ((f :: r).length ≤ 4) := by rw [← decide_not]; exact decide_eq_decide.2 (by rw [len_def]; omega)
   have q4 : decide ((0 : Int) < Sh.len f.params) = !decide (f.params.length = 0) := by rw [← decide_not]; exact decide_eq_decide.2 (by rw [len_def]; omega)
   simp only [q1, q2, q3, q4, Option.bind_some]
   cases decide ((f :: r).length ≤ 4) <;> cases z <;> cases y <;> by_cases a1 : f.params.length = 0 <;> by_cases a2 : f.result = 0 <;> simp [a1, a2]
end RC



namespace RC
open Go
def nc (D : List RDecl) : Nat := (D.map (·.cons.length)).sum
theorem nc_take {D : List RDecl} {i : Nat} {d : RDecl} (h : D[i]? = some d) : nc (D.take (i + 1)) = nc (D.take i) + d.cons.length := by
 rw [take_snoc h]; simp [nc]
theorem nc_drop {D : List RDecl} {i : Nat} {d : RDecl} (h : D[i]? = some d) : nc (D.drop i) = d.cons.length + nc (D.drop (i + 1)) := by
 rw [drop_cons h]; simp [nc]
theorem nc_split (D : List RDecl) (i : Nat) : nc D = nc (D.take i) + nc (D.drop i) := by
 unfold nc
 rw [← List.sum_append_nat, ← List.map_append, List.take_append_drop]
theorem spec_firstCon_eq {D : List RDecl} (hD : D.length ≤ 1048576) (hn : nc D ≤ 1048576) {i : Nat} (hi : i ≤ D.length) {N : Nat} (hN : 2000000 ≤ N) : spec_firstCon N D i = some (nc (D.take i) : Int) := by
 unfold spec_firstCon
 have key : ∀ {N j : Nat}, j ≤ i → i - j < N → spec_firstCon_L1 D i N (nc (D.take j)) j = some (nc (D.take i) : Int) := by
  intro N j hj hN
  refine loop_ind i (fun N j => spec_firstCon_L1 D i N (nc (D.take j)) j = some (nc (D.take i) : Int)) ?_ ?_ hj hN
  ·intro n; rw [spec_firstCon_L1, if_neg (by simp)]
  ·intro n j hj ih
   obtain ⟨d, hd, _⟩ := at_lt (l := D) (i := j) (by omega)
   have hs := nc_split D (j + 1)
   have ht := nc_take hd
   rw [spec_firstCon_L1, if_pos (by simp; omega), get_lt hd]
   simp only [Option.bind_some]
   rw [len_def, w_id (n := (j : Int) + 1) (by omega) (by omega), w_id (by omega) (by omega), show ((nc (D.take j) : Int) + (d.cons.length : Int)) = ((nc (D.take (j + 1)) : Nat) : Int) by omega, show ((j : Int) + 1) = ((j + 1 : Nat) : Int) by omega]
   exact ih
 have := key (Nat.zero_le _) (by omega : i - 0 < N)
 rw [show (((nc (D.take 0) : Nat) : Int)) = 0 from rfl, show (((0 : Nat) : Int)) = 0 from rfl] at this
 rw [this]; rfl
theorem impl_conCount_eq {D : List RDecl} (hD : D.length ≤ 1048576) (hn : nc D ≤ 1048576) {N : Nat} (hN : 2000000 ≤ N) : impl_conCount N D = some (nc D : Int) := by
 unfold impl_conCount
 have key : ∀ {N j : Nat}, j ≤ D.length → D.length - j < N → impl_conCount_L1 D N (nc (D.take j)) j = some (nc D : Int) := by
  intro N j hj hN
  refine loop_ind D.length (fun N j => impl_conCount_L1 D N (nc (D.take j)) j = some (nc D : Int)) ?_ ?_ hj hN
  ·intro n; rw [impl_conCount_L1, if_neg (by simp [len_def]), List.take_length]
  ·intro n j hj ih
   obtain ⟨d, hd, _⟩ := at_lt hj
   have hs := nc_split D (j + 1)
   have ht := nc_take hd
   rw [impl_conCount_L1, if_pos (by simp [len_def]; omega), get_lt hd]
   simp only [Option.bind_some]
   rw [len_def, w_id (n := (j : Int) + 1) (by omega) (by omega), w_id (by omega) (by omega), show ((nc (D.take j) : Int) + (d.cons.length : Int)) = ((nc (D.take (j + 1)) : Nat) : Int) by omega, show ((j : Int) + 1) = ((j + 1 : Nat) : Int) by omega]
   exact ih
 have := key (Nat.zero_le _) (by omega : D.length - 0 < N)
 rw [show (((nc (D.take 0) : Nat) : Int)) = 0 from rfl, show (((0 : Nat) : Int)) = 0 from rfl] at this
 rw [this]; rfl
def conF : List RDecl → Nat → Nat → Option (Nat × RCon)
 | [], _, _ => none
 | d :: r, k, c => match d.cons[c]? with
  | some x => some (k + 1, x)
  | none => conF r (k + 1) (c - d.cons.length)
theorem impl_conAt_eq {D : List RDecl} (hD : D.length ≤ 1048576) (hn : nc D ≤ 1048576) {c : Nat} (hc : c < nc D) {N : Nat} (hN : 2000000 ≤ N) : ∃ t x, conF D 0 c = some (t, x) ∧ impl_conAt N D c = some ((t : Int), x) := by
 have key : ∀ (m j N c : Nat), D.length - j = m → j ≤ D.length → m < N → c < nc (D.drop j) → ∃ t x, conF (D.drop j) j c = some (t, x) ∧ impl_conAt_L1 D N c j = some (.inl ((t : Int), x)) := by
  intro m
  induction m with
  | zero =>
   intro j N c h1 h2 _ h3
   rw [List.drop_eq_nil_of_le (by omega)] at h3; simp [nc] at h3
  | succ m ih =>
   intro j N c h1 h2 h3 h4
   obtain ⟨N, rfl⟩ : ∃ n, N = n + 1 := ⟨N - 1, by omega⟩
   obtain ⟨d, hd, _⟩ := at_lt (l := D) (i := j) (by omega)
   have hs := nc_split D j
   rw [nc_drop hd] at h4 hs
   rw [drop_cons hd]
   unfold conF
   rw [impl_conAt_L1, if_pos (by simp [len_def]; omega), get_lt hd]
   simp only [Option.bind_some]
   rw [if_pos (by simp), len_def, w_id (n := (j : Int) + 1) (by omega) (by omega), w_id (by omega) (by omega)]
   cases hx : d.cons[c]? with
   | some x =>
    have hlt := (List.getElem?_eq_some_iff.1 hx).1
    refine ⟨j + 1, x, rfl, ?_⟩
    have e : ((c : Int) < (d.cons.length : Int)) := by omega
    simp [e, get_lt hx]
   | none =>
    have hle : d.cons.length ≤ c := by simpa using hx
    obtain ⟨t, x, g1, g2⟩ := ih (j + 1) N (c - d.cons.length) (by omega) (by omega) (by omega) (by omega)
    refine ⟨t, x, g1, ?_⟩
    have e : ¬ ((c : Int) < (d.cons.length : Int)) := by omega
    rw [← g2, show ((c : Int) - (d.cons.length : Int)) = ((c - d.cons.length : Nat) : Int) by omega, show ((j : Int) + 1) = ((j + 1 : Nat) : Int) by omega]
    simp [e]
 obtain ⟨t, x, g1, g2⟩ := key D.length 0 N c (by omega) (by omega) (by omega) (by simpa using hc)
 refine ⟨t, x, by simpa using g1, ?_⟩
 unfold impl_conAt
 rw [show (((0 : Nat) : Int)) = 0 from rfl] at g2
 rw [g2]; rfl
end RC
namespace RC
open Go
theorem spec_conType_in {D : List RDecl} (hD : D.length ≤ 1048576) (hn : nc D ≤ 1048576) {c : Nat} (hc : c < nc D) {N : Nat} (hN : 2000000 ≤ N) : ∃ t x, conF D 0 c = some (t, x) ∧ spec_conType N D c = some (t : Int) := by
 have key : ∀ (m j M c : Nat), D.length - j = m → j ≤ D.length → m < M → c < nc (D.drop j) → ∃ t x, conF (D.drop j) j c = some (t, x) ∧ spec_conType_L1 N D ((nc (D.take j) + c : Nat) : Int) M j = some (.inl (t : Int)) := by
  intro m
  induction m with
  | zero =>
   intro j M c h1 h2 _ h3
   rw [List.drop_eq_nil_of_le (by omega)] at h3; simp [nc] at h3
  | succ m ih =>
   intro j M c h1 h2 h3 h4
   obtain ⟨M, rfl⟩ : ∃ n, M = n + 1 := ⟨M - 1, by omega⟩
   obtain ⟨d, hd, _⟩ := at_lt (l := D) (i := j) (by omega)
   have hs := nc_split D j
   rw [nc_drop hd] at h4 hs
   have ht := nc_take hd
   rw [drop_cons hd]
   unfold conF
   rw [spec_conType_L1, if_pos (by simp [len_def]; omega), spec_firstCon_eq hD hn (by omega) hN, get_lt hd]
   simp only [Option.bind_some]
   rw [len_def, w_id (n := (j : Int) + 1) (by omega) (by omega), w_id (n := (nc (D.take j) : Int) + (d.cons.length : Int)) (by omega) (by omega), w_id (by omega) (by omega), inRange_eq]
   simp only [Option.bind_some]
   cases hx : d.cons[c]? with
   | some x =>
    have hlt := (List.getElem?_eq_some_iff.1 hx).1
    refine ⟨j + 1, x, rfl, ?_⟩
    rw [if_pos (by simp; omega)]
    rfl
   | none =>
    have hle : d.cons.length ≤ c := by simpa using hx
    obtain ⟨t, x, g1, g2⟩ := ih (j + 1) M (c - d.cons.length) (by omega) (by omega) (by omega) (by omega)
    refine ⟨t, x, g1, ?_⟩
    rw [if_neg (by simp; omega), ← g2, show nc (D.take j) + c = nc (D.take (j + 1)) + (c - d.cons.length) by omega]
    rfl
 obtain ⟨t, x, g1, g2⟩ := key D.length 0 N c (by omega) (by omega) (by omega) (by simpa using hc)
 refine ⟨t, x, by simpa using g1, ?_⟩
 unfold spec_conType
 rw [show nc (D.take 0) + c = c by simp [nc], show (((0 : Nat) : Int)) = 0 from rfl] at g2
 rw [g2]; rfl
theorem spec_conType_out {D : List RDecl} (hD : D.length ≤ 1048576) (hn : nc D ≤ 1048576) {c : Int} (hc : c < 0 ∨ (nc D : Int) ≤ c) {N : Nat} (hN : 2000000 ≤ N) : spec_conType N D c = some (-1) := by
 unfold spec_conType
 have key : ∀ {M j : Nat}, j ≤ D.length → D.length - j < M → spec_conType_L1 N D c M j = some (.inr ()) := by
  intro M j hj hM
  refine loop_ind D.length (fun M j => spec_conType_L1 N D c M j = some (.inr ())) ?_ ?_ hj hM
  ·intro n; rw [spec_conType_L1, if_neg (by simp [len_def])]
  ·intro n j hj ih
   obtain ⟨d, hd, _⟩ := at_lt hj
   have hs := nc_split D (j + 1)
   have ht := nc_take hd
   rw [spec_conType_L1, if_pos (by simp [len_def]; omega), spec_firstCon_eq hD hn (by omega) hN, get_lt hd]
   simp only [Option.bind_some]
   rw [len_def, w_id (n := (j : Int) + 1) (by omega) (by omega), w_id (n := (nc (D.take j) : Int) + (d.cons.length : Int)) (by omega) (by omega), w_id (by omega) (by omega), inRange_eq]
   simp only [Option.bind_some]
   rw [if_neg (by simp; omega)]
   exact ih
 have := key (Nat.zero_le _) (by omega : D.length - 0 < N)
 rw [show (((0 : Nat) : Int)) = 0 from rfl] at this
 rw [this]; rfl
end RC
namespace RC
open Go
theorem conF_spec {D : List RDecl} : ∀ (m j c t : Nat) (x : RCon), D.length - j = m → j ≤ D.length → conF (D.drop j) j c = some (t, x) → ∃ d, 1 ≤ t ∧ D[t - 1]? = some d ∧ nc (D.take (t - 1)) ≤ nc (D.take j) + c ∧ d.cons[nc (D.take j) + c - nc (D.take (t - 1))]? = some x := by
 intro m
 induction m with
 | zero =>
  intro j c t x h1 h2 h
  rw [List.drop_eq_nil_of_le (by omega)] at h; simp [conF] at h
 | succ m ih =>
  intro j c t x h1 h2 h
  obtain ⟨d, hd, _⟩ := at_lt (l := D) (i := j) (by omega)
  have ht := nc_take hd
  rw [drop_cons hd] at h
  unfold conF at h
  cases hx : d.cons[c]? with
  | some y =>
   rw [hx] at h
   simp only [Option.some.injEq, Prod.mk.injEq] at h
   obtain ⟨rfl, rfl⟩ := h
   exact ⟨d, by omega, by simpa using hd, by simp, by simpa using hx⟩
  | none =>
   rw [hx] at h
   have hle : d.cons.length ≤ c := by simpa using hx
   obtain ⟨e, g1, g2, g3, g4⟩ := ih (j + 1) (c - d.cons.length) t x (by omega) (by omega) h
   rw [show nc (D.take (j + 1)) + (c - d.cons.length) = nc (D.take j) + c by omega] at g3 g4
   exact ⟨e, g1, g2, g3, g4⟩
theorem spec_conFields_eq {D : List RDecl} (hD : D.length ≤ 1048576) (hn : nc D ≤ 1048576) {c : Nat} (hc : c < nc D) {N : Nat} (hN : 2000000 ≤ N) : ∃ t x, conF D 0 c = some (t, x) ∧ spec_conFields N D c = some x.fields := by
 obtain ⟨t, x, e1, e2⟩ := spec_conType_in hD hn hc hN
 obtain ⟨d, g1, g2, g3, g4⟩ := conF_spec (D := D) D.length 0 c t x (by omega) (by omega) (by simpa using e1)
 have hlt := (List.getElem?_eq_some_iff.1 g2).1
 have hs := nc_split D (t - 1)
 rw [show nc (D.take 0) + c = c by simp [nc]] at g3 g4
 refine ⟨t, x, e1, ?_⟩
 unfold spec_conFields
 rw [e2]
 simp only [Option.bind_some]
 rw [if_neg (by simp; omega), w_id (n := (t : Int) - 1) (by omega) (by omega), show ((t : Int) - 1) = ((t - 1 : Nat) : Int) by omega, get_lt g2, spec_firstCon_eq hD hn (by omega) hN]
 simp only [Option.bind_some]
 rw [w_id (by omega) (by omega), show ((c : Int) - (nc (D.take (t - 1)) : Int)) = ((c - nc (D.take (t - 1)) : Nat) : Int) by omega, get_lt g4]
 rfl
theorem impl_fieldsOf_eq {D : List RDecl} (hD : D.length ≤ 1048576) (hn : nc D ≤ 1048576) {c : Nat} (hc : c < nc D) {N : Nat} (hN : 2000000 ≤ N) : ∃ t x, conF D 0 c = some (t, x) ∧ impl_fieldsOf N D c = some x.fields := by
 obtain ⟨t, x, e1, e2⟩ := impl_conAt_eq hD hn hc hN
 exact ⟨t, x, e1, by unfold impl_fieldsOf; rw [e2]; rfl⟩
end RC
namespace RC
open Go
def consL (D : List RDecl) (t : Int) : List Int :=
 if 1 ≤ t ∧ t ≤ (D.length : Int) then (List.range ((D[(t - 1).toNat]?).elim 0 (·.cons.length))).map fun (i : Nat) => (nc (D.take (t - 1).toNat) : Int) + (i : Int) else []
theorem range_snoc {f : Nat → Int} {i : Nat} : (List.range (i + 1)).map f = (List.range i).map f ++ [f i] := by rw [List.range_succ, List.map_append]; rfl
theorem spec_consOf_eq {D : List RDecl} (hD : D.length ≤ 1048576) (hn : nc D ≤ 1048576) {t : Int} {N : Nat} (hN : 2000000 ≤ N) : spec_consOf N D t = some (consL D t) := by
 unfold spec_consOf consL
 rw [inRange_eq, len_def]
 simp only [Option.bind_some]
 by_cases h : 1 ≤ t ∧ t ≤ (D.length : Int)
 ·obtain ⟨a, ha⟩ : ∃ a : Nat, t = (a : Int) + 1 := ⟨(t - 1).toNat, by omega⟩
  subst ha
  obtain ⟨d, hd, _⟩ := at_lt (l := D) (i := a) (by omega)
  have hs := nc_split D (a + 1)
  have ht := nc_take hd
  rw [if_neg (by simp; omega), if_pos h, show (((a : Int) + 1) - 1).toNat = a by omega, hd]
  simp only [Option.elim_some]
  have key : ∀ {M i : Nat}, i ≤ d.cons.length → d.cons.length - i < M → spec_consOf_L1 N D ((a : Int) + 1) M i ((List.range i).map fun (i : Nat) => (nc (D.take a) : Int) + (i : Int)) = some ((List.range d.cons.length).map fun (i : Nat) => (nc (D.take a) : Int) + (i : Int)) := by
   intro M i hi hM
   refine loop_ind d.cons.length (fun M i => spec_consOf_L1 N D ((a : Int) + 1) M i ((List.range i).map fun (i : Nat) => (nc (D.take a) : Int) + (i : Int)) = some ((List.range d.cons.length).map fun (i : Nat) => (nc (D.take a) : Int) + (i : Int))) ?_ ?_ hi hM
   ·intro n
    rw [spec_consOf_L1, w_id (by omega) (by omega), show ((a : Int) + 1 - 1) = ((a : Nat) : Int) by omega, get_lt hd]
    simp only [Option.bind_some]
    rw [if_neg (by simp [len_def])]
   ·intro n i hi ih
    rw [spec_consOf_L1, w_id (n := (a : Int) + 1 - 1) (by omega) (by omega), show ((a : Int) + 1 - 1) = ((a : Nat) : Int) by omega, get_lt hd]
    simp only [Option.bind_some]
    rw [if_pos (by simp [len_def]; omega), spec_firstCon_eq hD hn (by omega) hN]
    simp only [Option.bind_some]
    rw [app_ok _ _ _ (by simp; omega) (by simp; omega), w_id (n := (i : Int) + 1) (by omega) (by omega), w_id (by omega) (by omega), show ((i : Int) + 1) = ((i + 1 : Nat) : Int) by omega]
    simp only [Option.bind_some]
    rw [← ih, range_snoc]
  have := key (Nat.zero_le _) (by omega : d.cons.length - 0 < N)
  rw [show (((0 : Nat) : Int)) = 0 from rfl, List.range_zero, List.map_nil] at this
  rw [this]; rfl
 ·rw [if_pos (by simp; omega), if_neg h]
theorem impl_consOf_eq {D : List RDecl} (hD : D.length ≤ 1048576) (hn : nc D ≤ 1048576) {t : Int} {N : Nat} (hN : 2000000 ≤ N) : impl_consOf N D t = some (consL D t) := by
 unfold impl_consOf consL
 rw [len_def]
 by_cases h : 1 ≤ t ∧ t ≤ (D.length : Int)
 ·obtain ⟨a, ha⟩ : ∃ a : Nat, t = (a : Int) + 1 := ⟨(t - 1).toNat, by omega⟩
  subst ha
  obtain ⟨d, hd, _⟩ := at_lt (l := D) (i := a) (by omega)
  have hs := nc_split D (a + 1)
  have hs0 := nc_split D a
  have ht := nc_take hd
  have e1 : ¬ ((a : Int) + 1 < 1) := by omega
  have e2 : ¬ ((D.length : Int) < (a : Int) + 1) := by omega
  rw [if_pos h, show (((a : Int) + 1) - 1).toNat = a by omega, hd, w_id (by omega) (by omega), show ((a : Int) + 1 - 1) = ((a : Nat) : Int) by omega, sl_take (by omega) (by omega), get_lt hd]
  simp only [Option.elim_some, e1, e2, decide_false, Bool.false_eq_true, if_false, Option.bind_some]
  rw [impl_conCount_eq (by simp; omega) (by omega) hN]
  simp only [Option.bind_some]
  have key : ∀ {M i : Nat}, i ≤ d.cons.length → d.cons.length - i < M → impl_consOf_L1 d (nc (D.take a) : Int) M i ((List.range i).map fun (i : Nat) => (nc (D.take a) : Int) + (i : Int)) = some ((List.range d.cons.length).map fun (i : Nat) => (nc (D.take a) : Int) + (i : Int)) := by
   intro M i hi hM
   refine loop_ind d.cons.length (fun M i => impl_consOf_L1 d (nc (D.take a) : Int) M i ((List.range i).map fun (i : Nat) => (nc (D.take a) : Int) + (i : Int)) = some ((List.range d.cons.length).map fun (i : Nat) => (nc (D.take a) : Int) + (i : Int))) ?_ ?_ hi hM
   ·intro n; rw [impl_consOf_L1, if_neg (by simp [len_def])]
   ·intro n i hi ih
    rw [impl_consOf_L1, if_pos (by simp [len_def]; omega)]
    rw [app_ok _ _ _ (by simp; omega) (by simp; omega), w_id (n := (i : Int) + 1) (by omega) (by omega), w_id (by omega) (by omega), show ((i : Int) + 1) = ((i + 1 : Nat) : Int) by omega]
    simp only [Option.bind_some]
    rw [← ih, range_snoc]
  have := key (Nat.zero_le _) (by omega : d.cons.length - 0 < N)
  rw [show (((0 : Nat) : Int)) = 0 from rfl, List.range_zero, List.map_nil] at this
  rw [this]; rfl
 ·rw [if_neg h]
  by_cases e1 : t < 1
  ·simp [e1]
  ·have e2 : (D.length : Int) < t := by omega
   simp [e1, e2]
end RC



namespace RC
open Go
theorem sz_list {α : Type} {l : List α} (f : α → Nat) (L : Nat → Int → Int → Option (Int ⊕ Int)) (h0 : ∀ n left, L (n + 1) left (l.length : Int) = some (.inr left))
  (hs : ∀ n (i : Nat) x left, l[i]? = some x → 0 ≤ left → left ≤ 1048576 → L (n + 1) left (i : Int) = if left - (f x : Int) < 0 then some (.inl (-1)) else L n (left - (f x : Int)) ((i + 1 : Nat) : Int))
  {N : Nat} (hN : l.length < N) {left : Int} (hl0 : 0 ≤ left) (hl1 : left ≤ 1048576) : L N left 0 = some (if left - ((l.map f).sum : Nat) < 0 then .inl (-1) else .inr (left - ((l.map f).sum : Nat))) := by
 have key : ∀ {N i : Nat}, i ≤ l.length → l.length - i < N → ∀ left : Int, 0 ≤ left → left ≤ 1048576 → L N left (i : Int) = some (if left - (((l.drop i).map f).sum : Nat) < 0 then .inl (-1) else .inr (left - (((l.drop i).map f).sum : Nat))) := by
  intro N i hi hN
  refine loop_ind l.length (fun N i => ∀ left : Int, 0 ≤ left → left ≤ 1048576 → L N left (i : Int) = some (if left - (((l.drop i).map f).sum : Nat) < 0 then .inl (-1) else .inr (left - (((l.drop i).map f).sum : Nat)))) ?_ ?_ hi hN
  ·intro n left a b
   rw [h0, List.drop_length]
   simp
   omega
  ·intro n i hi ih left a b
   obtain ⟨x, hx, _⟩ := at_lt hi
   rw [hs n i x left hx a b, drop_cons hx, List.map_cons, List.sum_cons]
   by_cases h : left - (f x : Int) < 0
   ·rw [if_pos h, if_pos (by omega)]
   ·rw [if_neg h, ih (left - (f x : Int)) (by omega) (by omega)]
    rw [show left - ((f x + (List.map f (l.drop (i + 1))).sum : Nat) : Int) = left - (f x : Int) - ((List.map f (l.drop (i + 1))).sum : Nat) by omega]
 have := key (Nat.zero_le _) (by omega : l.length - 0 < N) left hl0 hl1
 simpa using this
theorem to_list {α : Type} {l : List α} (L : Nat → Int → List α → Option (List α)) (h0 : ∀ n m, L (n + 1) (l.length : Int) m = some m)
  (hs : ∀ n (i : Nat) x m, l[i]? = some x → m.length = l.length → L (n + 1) (i : Int) m = L n ((i + 1 : Nat) : Int) (m.set i x)) {N : Nat} (hN : l.length < N) {m : List α} (hm : m.length = l.length) : L N 0 m = some l := by
 have key : ∀ {N i : Nat}, i ≤ l.length → l.length - i < N → ∀ m : List α, m.length = l.length → m.take i = l.take i → L N (i : Int) m = some l := by
  intro N i hi hN
  refine loop_ind l.length (fun N i => ∀ m : List α, m.length = l.length → m.take i = l.take i → L N (i : Int) m = some l) ?_ ?_ hi hN
  ·intro n m a b
   rw [h0]
   rw [List.take_length, ← a, List.take_length] at b
   rw [b]
  ·intro n i hi ih m a b
   obtain ⟨x, hx, _⟩ := at_lt hi
   rw [hs n i x m hx a]
   refine ih (m.set i x) (by simp [a]) ?_
   have hi' : (m.set i x)[i]? = some x := by rw [List.getElem?_set_self (by omega)]
   rw [take_snoc hi', take_snoc hx, ← b, List.take_set_of_le (Nat.le_refl _)]
 exact key (Nat.zero_le _) (by omega : l.length - 0 < N) m hm rfl
end RC



namespace RC
open Go
def lft (left : Int) (s : Nat) : Int := if left - s < 0 then -1 else left - s
theorem lft_neg {left : Int} {s : Nat} (h : left - s < 0) : lft left s = -1 := if_pos h
theorem lft_pos {left : Int} {s : Nat} (h : ¬ left - s < 0) : lft left s = left - s := if_neg h
def cz (c : RCon) : Nat := c.fields.length
def dz (d : RDecl) : Nat := d.cons.length + (d.cons.map cz).sum
theorem szCon_eq {c : RCon} (hc : RConIn c) {left : Int} (h0 : 0 ≤ left) (h1 : left ≤ 1048576) : laws_szCon c left = some (lft left (cz c)) := by
 unfold laws_szCon
 rw [szIntS_eq h0 h1 hc.fields.2]
 unfold lft cz
 by_cases h : left - (c.fields.length : Int) < 0
 ·rw [if_pos h]; rfl
 ·rw [if_neg h]; simp [h]
theorem szConS_eq {l : List RCon} (hl : ListIn RConIn l) {left : Int} (h0 : 0 ≤ left) (h1 : left ≤ 1048576) {N : Nat} (hN : 2000000 ≤ N) : laws_szConS N l left = some (lft left (l.length + (l.map cz).sum)) := by
 unfold laws_szConS
 have hlen := hl.2
 rw [len_def, w_id (by omega) (by omega)]
 by_cases h : left - (l.length : Int) < 0
 ·rw [if_pos (by simpa using h), lft_neg (by omega)]
 ·rw [if_neg (by simpa using h), sz_list (l := l) cz (laws_szConS_L1 l) (fun n left => by rw [laws_szConS_L1, if_neg (by simp [len_def])]) (fun n i x left hx a b => ?_) (by omega) (by omega) (by omega)]
  ·by_cases g : left - (l.length : Int) - ((l.map cz).sum : Nat) < 0
   ·rw [if_pos g, lft_neg (by omega)]; rfl
   ·rw [if_neg g, lft_pos (by omega)]
    show some _ = some _
    congr 1; omega
  ·have hi := (List.getElem?_eq_some_iff.1 hx).1
   rw [laws_szConS_L1, if_pos (by simp [len_def]; omega), get_lt hx]
   simp only [Option.bind_some]
   rw [szCon_eq (hl.1 x (List.mem_of_getElem? hx)) a b, w_id (by omega) (by omega), show ((i : Int) + 1) = ((i + 1 : Nat) : Int) by omega]
   simp only [Option.bind_some]
   by_cases g : left - (cz x : Int) < 0
   ·rw [if_pos g, lft_neg g]; rfl
   ·rw [if_neg g, lft_pos g, if_neg (by simpa using g)]
end RC
namespace RC
open Go
theorem szDecl_eq {d : RDecl} (hd : RDeclIn d) {left : Int} (h0 : 0 ≤ left) (h1 : left ≤ 1048576) {N : Nat} (hN : 2000000 ≤ N) : laws_szDecl N d left = some (lft left (dz d)) := by
 unfold laws_szDecl
 rw [szConS_eq hd.cons h0 h1 hN]
 simp only [Option.bind_some]
 by_cases a : left - ((d.cons.length + (d.cons.map cz).sum : Nat) : Int) < 0
 ·rw [lft_neg a, lft_neg (by unfold dz; omega)]; rfl
 ·rw [lft_pos a, if_neg (by simpa using a), lft_pos (by unfold dz; omega)]; rfl
theorem szDeclS_eq {l : List RDecl} (hl : ListIn RDeclIn l) {left : Int} (h0 : 0 ≤ left) (h1 : left ≤ 1048576) {N : Nat} (hN : 2000000 ≤ N) : laws_szDeclS N l left = some (lft left (l.length + (l.map dz).sum)) := by
 unfold laws_szDeclS
 have hlen := hl.2
 rw [len_def, w_id (by omega) (by omega)]
 by_cases h : left - (l.length : Int) < 0
 ·rw [if_pos (by simpa using h), lft_neg (by omega)]
 ·rw [if_neg (by simpa using h), sz_list (l := l) dz (laws_szDeclS_L1 N l) (fun n left => by rw [laws_szDeclS_L1, if_neg (by simp [len_def])]) (fun n i x left hx a b => ?_) (by omega) (by omega) (by omega)]
  ·by_cases g : left - (l.length : Int) - ((l.map dz).sum : Nat) < 0
   ·rw [if_pos g, lft_neg (by omega)]; rfl
   ·rw [if_neg g, lft_pos (by omega)]
    show some _ = some _
    congr 1; omega
  ·have hi := (List.getElem?_eq_some_iff.1 hx).1
   rw [laws_szDeclS_L1, if_pos (by simp [len_def]; omega), get_lt hx]
   simp only [Option.bind_some]
   rw [szDecl_eq (hl.1 x (List.mem_of_getElem? hx)) a b hN, w_id (by omega) (by omega), show ((i : Int) + 1) = ((i + 1 : Nat) : Int) by omega]
   simp only [Option.bind_some]
   by_cases g : left - (dz x : Int) < 0
   ·rw [if_pos g, lft_neg g]; rfl
   ·rw [if_neg g, lft_pos g, if_neg (by simpa using g)]
end RC



namespace RC
open Go
end RC


namespace RC
open Go
end RC



namespace RC
open Go
section
variable {im : RImage} {p : RProc} {at_ : Nat} {i : RInstr} {N : Nat}
end
end RC



namespace RC
open Go
theorem mem_sum {α : Type} (f : α → Nat) {l : List α} {x : α} (h : x ∈ l) : f x ≤ (l.map f).sum := by
 induction l with
 | nil => cases h
 | cons y r ih =>
  rw [List.map_cons, List.sum_cons]
  rcases List.mem_cons.1 h with rfl | h
  ·omega
  ·have := ih h; omega
theorem toCon_eq {c : RCon} (h : cz c ≤ 1048576) {N : Nat} (hN : 2000000 ≤ N) : laws_toCon N c = some c := by
 unfold cz at h
 unfold laws_toCon; rw [toIntS_eq h hN]; rfl
theorem toConS_eq {l : List RCon} (hl : l.length + (l.map cz).sum ≤ 1048576) {N : Nat} (hN : 2000000 ≤ N) : laws_toConS N l = some l := by
 unfold laws_toConS
 rw [len_def, mk_ok _ _ _ (by omega) (by omega)]
 simp only [Option.bind_some]
 rw [to_list (l := l) (laws_toConS_L1 N l) (fun n m => by rw [laws_toConS_L1, if_neg (by simp [len_def])]) (fun n i x m hx hm => ?_) (by omega) (by simp)]
 ·rfl
 ·have hi := (List.getElem?_eq_some_iff.1 hx).1
  have hz := mem_sum cz (List.mem_of_getElem? hx)
  obtain ⟨y, hy, _⟩ := at_lt (l := m) (i := i) (by omega)
  rw [laws_toConS_L1, if_pos (by simp [len_def]; omega), get_lt hx]
  simp only [Option.bind_some]
  rw [toCon_eq (by omega) hN, get_lt hy]
  simp only [Option.bind_some]
  rw [put_nat, w_id (by omega) (by omega), show ((i : Int) + 1) = ((i + 1 : Nat) : Int) by omega]
theorem toDecl_eq {d : RDecl} (h : dz d ≤ 1048576) {N : Nat} (hN : 2000000 ≤ N) : laws_toDecl N d = some d := by
 unfold dz at h
 unfold laws_toDecl; rw [toConS_eq h hN]; rfl
theorem toDeclS_eq {l : List RDecl} (hl : l.length + (l.map dz).sum ≤ 1048576) {N : Nat} (hN : 2000000 ≤ N) : laws_toDeclS N l = some l := by
 unfold laws_toDeclS
 rw [len_def, mk_ok _ _ _ (by omega) (by omega)]
 simp only [Option.bind_some]
 rw [to_list (l := l) (laws_toDeclS_L1 N l) (fun n m => by rw [laws_toDeclS_L1, if_neg (by simp [len_def])]) (fun n i x m hx hm => ?_) (by omega) (by simp)]
 ·rfl
 ·have hi := (List.getElem?_eq_some_iff.1 hx).1
  have hz := mem_sum dz (List.mem_of_getElem? hx)
  obtain ⟨y, hy, _⟩ := at_lt (l := m) (i := i) (by omega)
  rw [laws_toDeclS_L1, if_pos (by simp [len_def]; omega), get_lt hx]
  simp only [Option.bind_some]
  rw [toDecl_eq (by omega) hN, get_lt hy]
  simp only [Option.bind_some]
  rw [put_nat, w_id (by omega) (by omega), show ((i : Int) + 1) = ((i + 1 : Nat) : Int) by omega]
end RC



namespace RC
open Go
theorem eqCon_eq {c : RCon} (h : cz c ≤ 1048576) {N : Nat} (hN : 2000000 ≤ N) : laws_eqCon N c c = some true := by
 unfold cz at h
 unfold laws_eqCon; rw [eqIntS_eq h hN]; rfl
theorem eqConS_eq {l : List RCon} (hl : l.length + (l.map cz).sum ≤ 1048576) {N : Nat} (hN : 2000000 ≤ N) : laws_eqConS N l l = some true := by
 unfold laws_eqConS
 have L := all_loop (l := l) (laws_eqConS_L1 N l l) (fun _ _ => true) (fun n => by rw [laws_eqConS_L1, if_neg (by simp [len_def])]) (fun n i x hx => ?_) (by omega : l.length < N)
 ·rw [allAt_all (p := fun _ => true)] at L
  simp [L, Sh.cont]
 ·have hi := (List.getElem?_eq_some_iff.1 hx).1
  have hz := mem_sum cz (List.mem_of_getElem? hx)
  rw [laws_eqConS_L1, if_pos (by simp [len_def]; omega), get_lt hx]
  simp only [Option.bind_some]
  rw [eqCon_eq (by omega) hN, w_id (by omega) (by omega), show ((i : Int) + 1) = ((i + 1 : Nat) : Int) by omega]
  rfl
theorem eqDecl_eq {d : RDecl} (h : dz d ≤ 1048576) {N : Nat} (hN : 2000000 ≤ N) : laws_eqDecl N d d = some true := by
 unfold dz at h
 unfold laws_eqDecl; rw [eqConS_eq h hN]; simp
theorem eqDeclS_eq {l : List RDecl} (hl : l.length + (l.map dz).sum ≤ 1048576) {N : Nat} (hN : 2000000 ≤ N) : laws_eqDeclS N l l = some true := by
 unfold laws_eqDeclS
 have L := all_loop (l := l) (laws_eqDeclS_L1 N l l) (fun _ _ => true) (fun n => by rw [laws_eqDeclS_L1, if_neg (by simp [len_def])]) (fun n i x hx => ?_) (by omega : l.length < N)
 ·rw [allAt_all (p := fun _ => true)] at L
  simp [L, Sh.cont]
 ·have hi := (List.getElem?_eq_some_iff.1 hx).1
  have hz := mem_sum dz (List.mem_of_getElem? hx)
  rw [laws_eqDeclS_L1, if_pos (by simp [len_def]; omega), get_lt hx]
  simp only [Option.bind_some]
  rw [eqDecl_eq (by omega) hN, w_id (by omega) (by omega), show ((i : Int) + 1) = ((i + 1 : Nat) : Int) by omega]
  rfl
end RC



namespace RC
open Go
end RC



namespace RC
open Go
mutual
def en : RExpr → Nat | .mk _ _ k => 1 + enl k
def enl : List RExpr → Nat | [] => 0 | e :: l => en e + enl l
end
theorem en_eq (e : RExpr) : en e = 1 + enl e.kids := by cases e; simp [en, RExpr.kids]
theorem enl_drop {k : List RExpr} {i : Nat} {e : RExpr} (h : k[i]? = some e) : enl (k.drop i) = en e + enl (k.drop (i + 1)) := by rw [drop_cons h]; simp [enl]
theorem en_pos (e : RExpr) : 1 ≤ en e := by rw [en_eq]; omega
theorem enl_mem {k : List RExpr} {e : RExpr} (h : e ∈ k) : en e ≤ enl k := by
 induction k with
 | nil => cases h
 | cons c k ih =>
  simp only [enl]
  rcases List.mem_cons.1 h with rfl | h
  ·omega
  ·have := ih h; omega
theorem enl_len (k : List RExpr) : k.length ≤ enl k := by
 induction k with
 | nil => simp
 | cons c k ih => have := en_pos c; simp only [enl, List.length_cons]; omega
theorem en_kid {e k : RExpr} (h : k ∈ e.kids) : en k < en e := by have := enl_mem h; rw [en_eq e]; omega
theorem szExprS_L1_eq {rec : RExpr → Int → Option Int} {k : List RExpr} {L : Int} (hL : L ≤ 1048576) (hk : k.length ≤ 1048576) (hrec : ∀ b ∈ k, ∀ left : Int, 0 ≤ left → left ≤ L → rec b left = some (lft left (enl b.kids))) {N i : Nat} (hi : i ≤ k.length) (hN : k.length - i < N) :
  ∀ left : Int, 0 ≤ left → left ≤ L → laws_szExprS_L1 k rec N left i = some (if left + (k.length - i : Nat) - enl (k.drop i) < 0 then Sum.inl (-1) else Sum.inr (left + (k.length - i : Nat) - enl (k.drop i))) := by
 refine loop_ind k.length (fun N i => ∀ left : Int, 0 ≤ left → left ≤ L → laws_szExprS_L1 k rec N left i = some (if left + (k.length - i : Nat) - enl (k.drop i) < 0 then Sum.inl (-1) else Sum.inr (left + (k.length - i : Nat) - enl (k.drop i)))) ?_ ?_ hi hN
 ·intro n left h0 h1
  rw [laws_szExprS_L1, if_neg (by simp [len_def])]
  simp [enl]; omega
 ·intro n i hi ih left h0 h1
  obtain ⟨b, hb, hbm⟩ := at_lt hi
  have e1 := en_eq b
  have hle := enl_len (k.drop (i + 1))
  rw [List.length_drop] at hle
  rw [laws_szExprS_L1, if_pos (by simp [len_def]; omega), get_lt hb]
  simp only [Option.bind_some]
  rw [hrec b hbm left h0 h1, enl_drop hb]
  simp only [Option.bind_some]
  by_cases h2 : left - (enl b.kids : Int) < 0
  ·rw [lft_neg h2, if_pos (by simp), if_pos (by omega)]
  ·rw [lft_pos h2, if_neg (by simpa using h2), w_id (by omega) (by omega), show ((i : Int) + 1) = ((i + 1 : Nat) : Int) by omega, ih (left - (enl b.kids : Int)) (by omega) (by omega)]
   have e : left - (enl b.kids : Int) + ((k.length - (i + 1) : Nat) : Int) - (enl (k.drop (i + 1)) : Int) = left + ((k.length - i : Nat) : Int) - ((en b + enl (k.drop (i + 1)) : Nat) : Int) := by omega
   rw [e]
theorem szExprS_eq {N : Nat} (hN : 2000000 ≤ N) {rec : RExpr → Int → Option Int} {k : List RExpr} (hk : k.length ≤ 9223372036854775807) {left : Int} (h0 : 0 ≤ left) (h1 : left ≤ 1048576)
  (hrec : ∀ b ∈ k, ∀ l : Int, 0 ≤ l → l < left → rec b l = some (lft l (enl b.kids))) : laws_szExprS N rec k left = some (lft left (enl k)) := by
 unfold laws_szExprS
 have hle := enl_len k
 rw [len_def, w_id (by omega) (by omega)]
 by_cases h2 : left - (k.length : Int) < 0
 ·rw [if_pos (by simpa using h2), lft_neg (by omega)]
 ·rw [if_neg (by simpa using h2)]
  have := szExprS_L1_eq (L := left - k.length) (by omega) (by omega) (fun b hb l l0 l1 => hrec b hb l l0 (by have := List.length_pos_of_mem hb; omega)) (Nat.zero_le _) (by omega : k.length - 0 < N) (left - k.length) (by omega) (by omega)
  rw [show ((0 : Nat) : Int) = 0 from rfl, List.drop_zero, Nat.sub_zero] at this
  rw [this, show left - (k.length : Int) + (k.length : Int) - (enl k : Int) = left - (enl k : Int) by omega]
  by_cases h3 : left - (enl k : Int) < 0
  ·rw [if_pos h3, lft_neg h3]; rfl
  ·rw [if_neg h3, lft_pos h3]; rfl
theorem szExpr_F_eq {N : Nat} (hN : 2000000 ≤ N) : ∀ (n : Nat) (e : RExpr) (left : Int), RExprIn e → 0 ≤ left → left ≤ 1048576 → left < n → laws_szExpr_F N n e left = some (lft left (enl e.kids)) := by
 intro n
 induction n with
 | zero => intro b left _ h0 _ h2; omega
 | succ n ih =>
  intro e left he h0 h1 h2
  rw [laws_szExpr_F]
  unfold laws_szExpr_B
  rw [szExprS_eq hN he.klen h0 h1 (fun b hb l l0 l1 => ih b l (he.kids b hb) l0 (by omega) (by omega))]
  simp only [Option.bind_some]
  by_cases h3 : left - (enl e.kids : Int) < 0
  ·rw [lft_neg h3]; rfl
  ·rw [lft_pos h3, if_neg (by simpa using h3)]
theorem szExpr_eq {e : RExpr} (he : RExprIn e) {left : Int} (h0 : 0 ≤ left) (h1 : left ≤ 1048576) {N : Nat} (hN : 2000000 ≤ N) : laws_szExpr N e left = some (lft left (enl e.kids)) := by
 unfold laws_szExpr
 exact szExpr_F_eq hN N e left he h0 h1 (by omega)
def fnz (f : RFunc) : Nat := f.params.length + enl f.body.kids
def pgz (p : RProgram) : Nat := (p.decls.length + (p.decls.map dz).sum) + (p.funcs.length + (p.funcs.map fnz).sum)
theorem szFunc_eq {f : RFunc} (hf : RFuncIn f) {left : Int} (h0 : 0 ≤ left) (h1 : left ≤ 1048576) {N : Nat} (hN : 2000000 ≤ N) : laws_szFunc N f left = some (lft left (fnz f)) := by
 unfold laws_szFunc fnz
 rw [szIntS_eq h0 h1 hf.params.2]
 simp only [Option.bind_some]
 by_cases h : left - (f.params.length : Int) < 0
 ·rw [if_pos h, lft_neg (by omega)]; rfl
 ·rw [if_neg h, if_neg (by simpa using h), szExpr_eq hf.body (by omega) (by omega) hN]
  simp only [Option.bind_some]
  by_cases h3 : left - (f.params.length : Int) - (enl f.body.kids : Int) < 0
  ·rw [lft_neg h3, lft_neg (by omega)]; rfl
  ·rw [lft_pos h3, lft_pos (by omega), if_neg (by simpa using h3)]
   congr 1; omega
theorem szFuncS_eq {l : List RFunc} (hl : ListIn RFuncIn l) {left : Int} (h0 : 0 ≤ left) (h1 : left ≤ 1048576) {N : Nat} (hN : 2000000 ≤ N) : laws_szFuncS N l left = some (lft left (l.length + (l.map fnz).sum)) := by
 have hlen := hl.2
 unfold laws_szFuncS
 rw [len_def, w_id (by omega) (by omega)]
 by_cases h2 : left - (l.length : Int) < 0
 ·rw [if_pos (by simpa using h2), lft_neg (by omega)]
 ·rw [if_neg (by simpa using h2), sz_list (l := l) fnz (laws_szFuncS_L1 N l) (fun n l => by rw [laws_szFuncS_L1, if_neg (by simp [len_def])]) (fun n i x l' hx l0 l1 => ?_) (by omega) (by omega) (by omega)]
  ·by_cases h3 : left - (l.length : Int) - ((l.map fnz).sum : Nat) < 0
   ·rw [if_pos h3, lft_neg (by omega)]; rfl
   ·rw [if_neg h3, lft_pos (by omega)]
    simp only [Sh.cont_inr]
    congr 1; omega
  ·have hi := (List.getElem?_eq_some_iff.1 hx).1
   rw [laws_szFuncS_L1, if_pos (by simp [len_def]; omega), get_lt hx]
   simp only [Option.bind_some]
   rw [szFunc_eq (hl.1 x (List.mem_of_getElem? hx)) l0 l1 hN]
   simp only [Option.bind_some]
   by_cases h3 : l' - (fnz x : Int) < 0
   ·rw [lft_neg h3, if_pos h3]; rfl
   ·rw [lft_pos h3, if_neg h3, if_neg (by simpa using h3), w_id (by omega) (by omega), show ((i : Int) + 1) = ((i + 1 : Nat) : Int) by omega]
theorem szProgram_eq {p : RProgram} (H : RProgramIn p) {left : Int} (h0 : 0 ≤ left) (h1 : left ≤ 1048576) {N : Nat} (hN : 2000000 ≤ N) : laws_szProgram N p left = some (lft left (pgz p)) := by
 unfold laws_szProgram pgz
 rw [szDeclS_eq H.decls h0 h1 hN]
 simp only [Option.bind_some]
 by_cases h : left - ((p.decls.length + (p.decls.map dz).sum : Nat) : Int) < 0
 ·rw [lft_neg h, lft_neg (by omega)]; rfl
 ·rw [lft_pos h, if_neg (by simpa using h), szFuncS_eq H.funcs (by omega) (by omega) hN]
  simp only [Option.bind_some]
  by_cases h3 : left - ((p.decls.length + (p.decls.map dz).sum : Nat) : Int) - ((p.funcs.length + (p.funcs.map fnz).sum : Nat) : Int) < 0
  ·rw [lft_neg h3, lft_neg (by omega)]; rfl
  ·rw [lft_pos h3, lft_pos (by omega), if_neg (by simpa using h3)]
   congr 1; omega
theorem toExpr_F_eq {N : Nat} (hN : 2000000 ≤ N) : ∀ (n : Nat) (e : RExpr), enl e.kids ≤ 1048576 → en e ≤ n → laws_toExpr_F N n e = some e := by
 intro n
 induction n with
 | zero => intro e _ h; have := en_pos e; omega
 | succ n ih =>
  intro e hz hn
  have hle := enl_len e.kids
  rw [laws_toExpr_F]
  unfold laws_toExpr_B laws_toExprS
  rw [len_def, mk_ok _ _ _ (by omega) (by omega)]
  simp only [Option.bind_some]
  rw [to_list (l := e.kids) (laws_toExprS_L1 e.kids (laws_toExpr_F N n)) (fun n m => by rw [laws_toExprS_L1, if_neg (by simp [len_def])]) (fun k i x m hx hm => ?_) (by omega) (by simp)]
  ·simp only [Option.bind_some]
   rw [← RExpr.eta]
  ·have hi := (List.getElem?_eq_some_iff.1 hx).1
   have hk := en_kid (List.mem_of_getElem? hx)
   have hz2 := enl_mem (List.mem_of_getElem? hx)
   have e1 := en_eq x
   obtain ⟨y, hy, _⟩ := at_lt (l := m) (i := i) (by omega)
   rw [laws_toExprS_L1, if_pos (by simp [len_def]; omega), get_lt hx]
   simp only [Option.bind_some]
   rw [ih x (by omega) (by omega), get_lt hy]
   simp only [Option.bind_some]
   rw [put_nat, w_id (by omega) (by omega), show ((i : Int) + 1) = ((i + 1 : Nat) : Int) by omega]
theorem toExpr_eq {e : RExpr} (hz : enl e.kids ≤ 1048576) {N : Nat} (hN : 2000000 ≤ N) : laws_toExpr N e = some e := by
 unfold laws_toExpr
 exact toExpr_F_eq hN N e hz (by rw [en_eq]; omega)
theorem toFunc_eq {f : RFunc} (h : fnz f ≤ 1048576) {N : Nat} (hN : 2000000 ≤ N) : laws_toFunc N f = some f := by
 unfold fnz at h
 unfold laws_toFunc; rw [toIntS_eq (by omega) hN, toExpr_eq (by omega) hN]; rfl
theorem toFuncS_eq {l : List RFunc} (hl : l.length + (l.map fnz).sum ≤ 1048576) {N : Nat} (hN : 2000000 ≤ N) : laws_toFuncS N l = some l := by
 unfold laws_toFuncS
 rw [len_def, mk_ok _ _ _ (by omega) (by omega)]
 simp only [Option.bind_some]
 rw [to_list (l := l) (laws_toFuncS_L1 N l) (fun n m => by rw [laws_toFuncS_L1, if_neg (by simp [len_def])]) (fun n i x m hx hm => ?_) (by omega) (by simp)]
 ·rfl
 ·have hi := (List.getElem?_eq_some_iff.1 hx).1
  have hz := mem_sum fnz (List.mem_of_getElem? hx)
  obtain ⟨y, hy, _⟩ := at_lt (l := m) (i := i) (by omega)
  rw [laws_toFuncS_L1, if_pos (by simp [len_def]; omega), get_lt hx]
  simp only [Option.bind_some]
  rw [toFunc_eq (by omega) hN, get_lt hy]
  simp only [Option.bind_some]
  rw [put_nat, w_id (by omega) (by omega), show ((i : Int) + 1) = ((i + 1 : Nat) : Int) by omega]
theorem toProgram_eq {p : RProgram} (h : pgz p ≤ 1048576) {N : Nat} (hN : 2000000 ≤ N) : laws_toProgram N p = some p := by
 unfold pgz at h
 unfold laws_toProgram; rw [toDeclS_eq (by omega) hN, toFuncS_eq (by omega) hN]; rfl
theorem eqExpr_F_eq {N : Nat} (hN : 2000000 ≤ N) : ∀ (n : Nat) (e : RExpr), enl e.kids ≤ 1048576 → en e ≤ n → laws_eqExpr_F N n e e = some true := by
 intro n
 induction n with
 | zero => intro e _ h; have := en_pos e; omega
 | succ n ih =>
  intro e hz hn
  have hle := enl_len e.kids
  rw [laws_eqExpr_F]
  unfold laws_eqExpr_B laws_eqExprS
  have L := all_loop (l := e.kids) (laws_eqExprS_L1 e.kids e.kids (laws_eqExpr_F N n)) (fun _ _ => true) (fun n => by rw [laws_eqExprS_L1, if_neg (by simp [len_def])]) (fun k i x hx => ?_) (by omega : e.kids.length < N)
  ·rw [allAt_all (p := fun _ => true)] at L
   simp [L, Sh.cont]
  ·have hi := (List.getElem?_eq_some_iff.1 hx).1
   have hk := en_kid (List.mem_of_getElem? hx)
   have hz2 := enl_mem (List.mem_of_getElem? hx)
   have e1 := en_eq x
   rw [laws_eqExprS_L1, if_pos (by simp [len_def]; omega), get_lt hx]
   simp only [Option.bind_some]
   rw [ih x (by omega) (by omega), w_id (by omega) (by omega), show ((i : Int) + 1) = ((i + 1 : Nat) : Int) by omega]
   rfl
theorem eqExpr_eq {e : RExpr} (hz : enl e.kids ≤ 1048576) {N : Nat} (hN : 2000000 ≤ N) : laws_eqExpr N e e = some true := by
 unfold laws_eqExpr
 exact eqExpr_F_eq hN N e hz (by rw [en_eq]; omega)
theorem eqFunc_eq {f : RFunc} (h : fnz f ≤ 1048576) {N : Nat} (hN : 2000000 ≤ N) : laws_eqFunc N f f = some true := by
 unfold fnz at h
 unfold laws_eqFunc; rw [eqIntS_eq (by omega) hN, eqExpr_eq (by omega) hN]; simp
theorem eqFuncS_eq {l : List RFunc} (hl : l.length + (l.map fnz).sum ≤ 1048576) {N : Nat} (hN : 2000000 ≤ N) : laws_eqFuncS N l l = some true := by
 unfold laws_eqFuncS
 have L := all_loop (l := l) (laws_eqFuncS_L1 N l l) (fun _ _ => true) (fun n => by rw [laws_eqFuncS_L1, if_neg (by simp [len_def])]) (fun n i x hx => ?_) (by omega : l.length < N)
 ·rw [allAt_all (p := fun _ => true)] at L
  simp [L, Sh.cont]
 ·have hi := (List.getElem?_eq_some_iff.1 hx).1
  have hz := mem_sum fnz (List.mem_of_getElem? hx)
  rw [laws_eqFuncS_L1, if_pos (by simp [len_def]; omega), get_lt hx]
  simp only [Option.bind_some]
  rw [eqFunc_eq (by omega) hN, w_id (by omega) (by omega), show ((i : Int) + 1) = ((i + 1 : Nat) : Int) by omega]
  rfl
theorem eqProgram_eq {p : RProgram} (h : pgz p ≤ 1048576) {N : Nat} (hN : 2000000 ≤ N) : laws_eqProgram N p p = some true := by
 unfold pgz at h
 unfold laws_eqProgram; rw [eqDeclS_eq (by omega) hN, eqFuncS_eq (by omega) hN]; rfl
theorem nodesLeft_F_eq {N : Nat} (hN : 2000000 ≤ N) : ∀ (n : Nat) (e : RExpr) (left : Int), left ≤ 1000 → 0 ≤ left → left < n → enl e.kids ≤ 1048576 → spec_nodesLeft_F N n e left = some (lft left (en e)) := by
 intro n
 induction n with
 | zero => intro e left _ _ h; omega
 | succ n ih =>
  intro e left h0 hl0 h1 hz
  rw [spec_nodesLeft_F]
  unfold spec_nodesLeft_B
  have hp := en_eq e
  have hle := enl_len e.kids
  by_cases h2 : left < 1
  ·rw [if_pos (by simpa using h2), lft_neg (by omega)]
  ·rw [if_neg (by simpa using h2), w_id (by omega) (by omega)]
   have key : ∀ {M i : Nat}, i ≤ e.kids.length → e.kids.length - i < M → ∀ l : Int, 0 ≤ l → l < left → spec_nodesLeft_B_L1 e (spec_nodesLeft_F N n) M l i = some (if l - (enl (e.kids.drop i) : Int) < 0 then .inl (-1) else .inr (l - (enl (e.kids.drop i) : Int))) := by
    intro M i hi hM
    refine loop_ind e.kids.length (fun M i => ∀ l : Int, 0 ≤ l → l < left → spec_nodesLeft_B_L1 e (spec_nodesLeft_F N n) M l i = some (if l - (enl (e.kids.drop i) : Int) < 0 then .inl (-1) else .inr (l - (enl (e.kids.drop i) : Int)))) ?_ ?_ hi hM
    ·intro m l l0 l1
     rw [spec_nodesLeft_B_L1, if_neg (by simp [len_def])]
     simp [enl]; omega
    ·intro m i hi ih2 l l0 l1
     obtain ⟨x, hx, hxm⟩ := at_lt hi
     have hz2 := enl_mem hxm
     have e1 := en_eq x
     rw [spec_nodesLeft_B_L1, if_pos (by simp [len_def]; omega), get_lt hx]
     simp only [Option.bind_some]
     rw [ih x l (by omega) l0 (by omega) (by omega), enl_drop hx]
     simp only [Option.bind_some]
     by_cases h3 : l - (en x : Int) < 0
     ·rw [lft_neg h3, if_pos (by simp), if_pos (by omega)]
     ·rw [lft_pos h3, if_neg (by simpa using h3), w_id (by omega) (by omega), show ((i : Int) + 1) = ((i + 1 : Nat) : Int) by omega, ih2 (l - (en x : Int)) (by omega) (by omega)]
      rw [show l - (en x : Int) - (enl (e.kids.drop (i + 1)) : Int) = l - ((en x + enl (e.kids.drop (i + 1)) : Nat) : Int) by omega]
   have := key (Nat.zero_le _) (by omega : e.kids.length - 0 < N) (left - 1) (by omega) (by omega)
   rw [show ((0 : Nat) : Int) = 0 from rfl, List.drop_zero] at this
   rw [this]
   by_cases h3 : left - 1 - (enl e.kids : Int) < 0
   ·rw [if_pos h3, lft_neg (by omega)]; rfl
   ·rw [if_neg h3, lft_pos (by omega)]
    simp only [Sh.cont_inr]
    congr 1; omega
theorem spec_nodesOf_eq {e : RExpr} (hz : enl e.kids ≤ 1048576) {N : Nat} (hN : 2000000 ≤ N) : spec_nodesOf N e = some (if en e ≤ 30 then (en e : Int) else -1) := by
 unfold spec_nodesOf spec_nodesLeft
 rw [nodesLeft_F_eq hN N e 30 (by omega) (by omega) (by omega) hz]
 simp only [Option.bind_some]
 by_cases h : en e ≤ 30
 ·rw [lft_pos (by omega), if_pos h, if_neg (by simp; omega), w_id (by omega) (by omega)]
  congr 1; omega
 ·rw [lft_neg (by omega), if_neg h]; rfl
theorem countNodes_F_eq {N : Nat} (hN : 2000000 ≤ N) : ∀ (n : Nat) (e : RExpr) (c : Nat), c ≤ 30 → 31 - c < n → enl e.kids ≤ 1048576 → impl_countNodes_F N n c e = some (if c + en e ≤ 30 then (true, ((c + en e : Nat) : Int)) else (false, 31)) := by
 intro n
 induction n with
 | zero => intro e c _ h; omega
 | succ n ih =>
  intro e c h0 h1 hz
  rw [impl_countNodes_F]
  unfold impl_countNodes_B
  have hp := en_eq e
  have hle := enl_len e.kids
  rw [w_id (by omega) (by omega)]
  by_cases h2 : c = 30
  ·subst h2
   rw [if_pos (by simp), if_neg (by omega)]; rfl
  ·rw [if_neg (by simp; omega)]
   have key : ∀ {M i : Nat}, i ≤ e.kids.length → e.kids.length - i < M → ∀ d : Nat, c < d → d ≤ 30 → impl_countNodes_B_L1 e (impl_countNodes_F N n) M i d = some (if d + enl (e.kids.drop i) ≤ 30 then .inr ((d + enl (e.kids.drop i) : Nat) : Int) else .inl (false, 31)) := by
    intro M i hi hM
    refine loop_ind e.kids.length (fun M i => ∀ d : Nat, c < d → d ≤ 30 → impl_countNodes_B_L1 e (impl_countNodes_F N n) M i d = some (if d + enl (e.kids.drop i) ≤ 30 then .inr ((d + enl (e.kids.drop i) : Nat) : Int) else .inl (false, 31))) ?_ ?_ hi hM
    ·intro m d l0 l1
     rw [impl_countNodes_B_L1, if_neg (by simp [len_def])]
     simp [enl, l1]
    ·intro m i hi ih2 d l0 l1
     obtain ⟨x, hx, hxm⟩ := at_lt hi
     have hz2 := enl_mem hxm
     have e1 := en_eq x
     rw [impl_countNodes_B_L1, if_pos (by simp [len_def]; omega), get_lt hx]
     simp only [Option.bind_some]
     rw [ih x d l1 (by omega) (by omega), enl_drop hx]
     simp only [Option.bind_some]
     by_cases h3 : d + en x ≤ 30
     ·rw [if_pos h3]
      simp only [Bool.not_true, Bool.false_eq_true, if_false]
      rw [w_id (by omega) (by omega), show ((i : Int) + 1) = ((i + 1 : Nat) : Int) by omega, ih2 (d + en x) (by omega) h3, Nat.add_assoc]
     ·have h4 : ¬ (d + (en x + enl (List.drop (i + 1) e.kids)) ≤ 30) := by omega
      rw [if_neg h3, if_neg h4]; rfl
   have := key (Nat.zero_le _) (by omega : e.kids.length - 0 < N) (c + 1) (by omega) (by omega)
   rw [show ((0 : Nat) : Int) = 0 from rfl, List.drop_zero, show ((c + 1 : Nat) : Int) = (c : Int) + 1 by omega] at this
   rw [this]
   by_cases h3 : c + 1 + enl e.kids ≤ 30
   ·rw [if_pos h3, if_pos (by omega)]
    simp only [Sh.cont_inr]
    rw [show c + 1 + enl e.kids = c + en e by omega]
   ·rw [if_neg h3, if_neg (by omega)]; rfl
theorem impl_NodesOf_eq {e : RExpr} (hz : enl e.kids ≤ 1048576) {N : Nat} (hN : 2000000 ≤ N) : impl_NodesOf N e = some (if en e ≤ 30 then (en e : Int) else -1) := by
 unfold impl_NodesOf impl_countNodes
 have := countNodes_F_eq hN N e 0 (by omega) (by omega) hz
 rw [show ((0 : Nat) : Int) = 0 from rfl, Nat.zero_add] at this
 rw [this]
 simp only [Option.bind_some]
 by_cases h : en e ≤ 30
 ·rw [if_pos h, if_pos h]; rfl
 ·rw [if_neg h, if_neg h]; rfl
end RC



namespace RC
open Go
theorem allAt_iff2 {α : Type} {g : Nat → α → Bool} : ∀ (l : List α) (k : Nat), allAt g k l = true ↔ ∀ (i : Nat) x, l[i]? = some x → g (k + i) x = true
 | [], _ => by simp [allAt]
 | x :: r, k => by
  rw [allAt, Bool.and_eq_true, allAt_iff2 r (k + 1)]
  constructor
  ·rintro ⟨h1, h2⟩ i y hy
   cases i with
   | zero => simp only [List.getElem?_cons_zero, Option.some.injEq] at hy; subst hy; exact h1
   | succ i => have := h2 i y hy; rw [show k + (i + 1) = k + 1 + i by omega]; exact this
  ·intro h
   exact ⟨h 0 x rfl, fun i y hy => by have := h (i + 1) y hy; rw [show k + (i + 1) = k + 1 + i by omega] at this; exact this⟩
theorem list_eq_all {a b : List Int} (h : a.length = b.length) : allAt (fun i x => decide (b[i]? = some x)) 0 a = decide (a = b) := by
 rw [Bool.eq_iff_iff, allAt_iff2, decide_eq_true_iff]
 constructor
 ·intro g
  refine List.ext_getElem? fun i => ?_
  by_cases hi : i < a.length
  ·obtain ⟨x, hx, _⟩ := at_lt hi
   have := g i x hx
   rw [decide_eq_true_iff, Nat.zero_add] at this
   rw [hx, this]
  ·rw [List.getElem?_eq_none (by omega), List.getElem?_eq_none (by omega)]
 ·rintro rfl i x hx
  rw [decide_eq_true_iff, Nat.zero_add, hx]
theorem Equal_eq {a b : List Int} (ha : a.length ≤ 1048576) {N : Nat} (hN : 2000000 ≤ N) : slices_Equal_int_int N a b = some (decide (a = b)) := by
 unfold slices_Equal_int_int
 by_cases h : a.length = b.length
 ·rw [if_neg (by simp [len_def, h]), all_loop (l := a) (slices_Equal_int_int_L1 a b) (fun i x => decide (b[i]? = some x)) (fun n => by rw [slices_Equal_int_int_L1, if_neg (by simp [len_def])]) (fun n i x hx => ?_) (by omega), cont_all, list_eq_all h]
  ·cases decide (a = b) <;> rfl
  ·have hi := (List.getElem?_eq_some_iff.1 hx).1
   obtain ⟨y, hy, _⟩ := at_lt (l := b) (i := i) (by omega)
   rw [slices_Equal_int_int_L1, if_pos (by simp [len_def]; omega), get_lt hx]
   simp only [Option.bind_some]
   rw [get_lt hy, hy, w_id (by omega) (by omega), show ((i : Int) + 1) = ((i + 1 : Nat) : Int) by omega]
   simp only [Option.bind_some]
   by_cases e : x = y
   ·simp [e]
   ·have e' : ¬ y = x := fun q => e q.symm
    simp [e, e']
 ·have hne : ¬ a = b := fun e => h (by rw [e])
  have h' : ¬ ((a.length : Int) = (b.length : Int)) := by omega
  simp [len_def, h', hne]
structure SigOK (D : List RDecl) (F : List RFunc) : Prop where
 dlen : D.length ≤ 4
 clen : ∀ d ∈ D, d.cons.length ≤ 3
 flds : ∀ d ∈ D, ∀ c ∈ d.cons, c.fields.length ≤ 3 ∧ ∀ t ∈ c.fields, tyB D t = true
 arrs : ∀ d ∈ D, tyB D d.from_ = true ∧ tyB D d.to = true
 flen : F.length ≤ 4
 funs : ∀ f ∈ F, f.params.length ≤ 3 ∧ (∀ t ∈ f.params, tyB D t = true) ∧ tyB D f.result = true
theorem nc_le12 {D : List RDecl} (h : ∀ d ∈ D, d.cons.length ≤ 3) : nc D ≤ 3 * D.length := by
 induction D with
 | nil => simp [nc]
 | cons d r ih =>
  have h1 := h d (by simp)
  have h2 := ih fun e he => h e (by simp [he])
  simp only [nc, List.map_cons, List.sum_cons, List.length_cons] at h2 ⊢
  omega
theorem SigOK.nc {D : List RDecl} {F : List RFunc} (S : SigOK D F) : nc D ≤ 12 := by have := nc_le12 S.clen; have := S.dlen; omega
theorem tyB_nn {D : List RDecl} {t : Int} (h : tyB D t = true) : 0 ≤ t ∧ t ≤ (D.length : Int) := by
 unfold tyB at h
 simpa using h
theorem SigOK.of {p : RProgram} (h : sigsB p.decls (p.funcs.map fun f => (f.params, f.result)) = true) : SigOK p.decls p.funcs := by
 unfold sigsB at h
 simp only [Bool.and_eq_true, List.length_map, List.all_map, decide_eq_true_eq] at h
 obtain ⟨h1, ⟨_, h2⟩, h3, _⟩ := h
 unfold typesB at h1
 simp only [Bool.and_eq_true, decide_eq_true_eq] at h1
 obtain ⟨h4, h5⟩ := h1
 rw [allAt_iff2] at h5
 have hd : ∀ d ∈ p.decls, ∃ i, declB p.decls i d = true := fun d hd => by
  obtain ⟨i, hi⟩ := List.mem_iff_getElem?.1 hd
  exact ⟨_, h5 i d hi⟩
 refine ⟨h4, fun d hm => ?_, fun d hm c hc => ?_, fun d hm => ?_, h2, fun f hf => ?_⟩
 ·obtain ⟨i, hi⟩ := hd d hm
  unfold declB at hi
  split at hi
  ·simp only [Bool.and_eq_true, decide_eq_true_eq] at hi; exact hi.1.1
  ·omega
 ·obtain ⟨i, hi⟩ := hd d hm
  unfold declB at hi
  split at hi
  ·simp only [Bool.and_eq_true, decide_eq_true_eq, List.all_eq_true] at hi
   have := hi.2 c hc
   unfold conB at this
   simp only [Bool.and_eq_true, decide_eq_true_eq, List.all_eq_true] at this
   exact this
  ·have := List.length_pos_of_mem hc; omega
 ·obtain ⟨i, hi⟩ := hd d hm
  unfold declB at hi
  split at hi
  ·simp only [Bool.and_eq_true, decide_eq_true_eq] at hi
   rw [hi.1.2.1, hi.1.2.2]
   have : tyB p.decls 0 = true := by unfold tyB; simp
   exact ⟨this, this⟩
  ·simp only [Bool.and_eq_true] at hi; exact hi.2
 ·have := List.all_eq_true.1 h3 f hf
  simp only [Function.comp, sigB, Bool.and_eq_true, decide_eq_true_eq, List.all_eq_true] at this
  exact this
def TOK (p : RProgram) (sg : RSignatures) (R1 : RProgram → List Int → RExpr → Option Int) (R2 : List Int → RSignatures → RExpr → Option Int) (T : List Int → RExpr → Int) (m : Nat) : Prop :=
 ∀ (v : List Int) (e : RExpr), RExprIn e → en e < m → v.length + 3 * en e ≤ 1000 → (∀ x ∈ v, tyB p.decls x = true) → R1 p v e = some (T v e) ∧ R2 v sg e = some (T v e) ∧ (T v e = -1 ∨ tyB p.decls (T v e) = true)
section
variable {p : RProgram} {sg : RSignatures} {R1 : RProgram → List Int → RExpr → Option Int} {R2 : List Int → RSignatures → RExpr → Option Int} {T : List Int → RExpr → Int} {e : RExpr} {v : List Int} {N : Nat}
structure VOK (p : RProgram) (e : RExpr) (v : List Int) : Prop where
 len : v.length + 3 * en e ≤ 1000
 tys : ∀ x ∈ v, tyB p.decls x = true
 small : en e ≤ 340
 inn : RExprIn e
theorem VOK.kid (V : VOK p e v) {k : RExpr} (hk : k ∈ e.kids) : v.length + 3 * en k ≤ 1000 := by have := V.len; have := en_kid hk; omega
theorem VOK.more (V : VOK p e v) {k : RExpr} (hk : k ∈ e.kids) {m : List Int} (hm : m.length ≤ 3) : (v ++ m).length + 3 * en k ≤ 1000 := by have := V.len; have := en_kid hk; rw [List.length_append]; omega
theorem VOK.tys2 (V : VOK p e v) {m : List Int} (hm : ∀ x ∈ m, tyB p.decls x = true) : ∀ x ∈ v ++ m, tyB p.decls x = true := fun x hx => by
 rcases List.mem_append.1 hx with h | h
 ·exact V.tys x h
 ·exact hm x h
theorem VOK.klen (V : VOK p e v) : e.kids.length ≤ 340 := by have := enl_len e.kids; have := V.small; have := en_eq e; omega
theorem allInts_eq (H : TOK p sg R1 R2 T (en e)) (V : VOK p e v) (hN : 2000000 ≤ N) (m : Nat) : spec_allInts N R1 p v e.kids m = some (decide (e.kids.map (T v) = List.replicate m 0)) := by
 unfold spec_allInts
 have hk := V.klen
 by_cases h : e.kids.length = m
 ·subst h
  rw [if_neg (by simp [len_def]), all_loop (l := e.kids) (spec_allInts_L1 p v e.kids e.kids.length R1) (fun _ x => decide (T v x = 0)) (fun n => by rw [spec_allInts_L1, if_neg (by simp)]) (fun n i x hx => ?_) (by omega), cont_all, allAt_all]
  ·have e1 : e.kids.all (fun x => decide (T v x = 0)) = decide (e.kids.map (T v) = List.replicate e.kids.length 0) := by
    rw [Bool.eq_iff_iff, decide_eq_true_iff, List.all_eq_true, List.eq_replicate_iff]
    simp
   rw [e1]
   cases decide (e.kids.map (T v) = List.replicate e.kids.length 0) <;> rfl
  ·have hi := (List.getElem?_eq_some_iff.1 hx).1
   have hm := List.mem_of_getElem? hx
   rw [spec_allInts_L1, if_pos (by simp; omega), get_lt hx]
   simp only [Option.bind_some]
   rw [(H v x (V.inn.kids x hm) (en_kid hm) (V.kid hm) V.tys).1, w_id (by omega) (by omega), show ((i : Int) + 1) = ((i + 1 : Nat) : Int) by omega]
   simp only [Option.bind_some]
   by_cases e1 : T v x = 0 <;> simp [e1]
 ·have h1 : ¬ ((e.kids.length : Int) = (m : Int)) := by omega
  have h2 : ¬ e.kids.map (T v) = List.replicate m 0 := fun q => h (by have := congrArg List.length q; simpa using this)
  simp [len_def, h1, h2]
theorem allOf_eq (H : TOK p sg R1 R2 T (en e)) (V : VOK p e v) (hN : 2000000 ≤ N) (l : List Int) : spec_allOf N R1 p v e.kids l = some (decide (e.kids.map (T v) = l)) := by
 unfold spec_allOf
 have hk := V.klen
 by_cases h : e.kids.length = l.length
 ·rw [if_neg (by simp [len_def, h]), all_loop (l := l) (spec_allOf_L1 p v e.kids l R1) (fun i x => decide ((e.kids.map (T v))[i]? = some x)) (fun n => by rw [spec_allOf_L1, if_neg (by simp [len_def])]) (fun n i x hx => ?_) (by omega), cont_all, list_eq_all (by simp [h])]
  ·by_cases q : l = e.kids.map (T v)
   ·simp [q]
   ·have q' : ¬ e.kids.map (T v) = l := fun z => q z.symm
    simp [q, q']
  ·have hi := (List.getElem?_eq_some_iff.1 hx).1
   obtain ⟨y, hy, hm⟩ := at_lt (l := e.kids) (i := i) (by omega)
   rw [spec_allOf_L1, if_pos (by simp [len_def]; omega), get_lt hy]
   simp only [Option.bind_some]
   rw [(H v y (V.inn.kids y hm) (en_kid hm) (V.kid hm) V.tys).1, get_lt hx, w_id (by omega) (by omega), show ((i : Int) + 1) = ((i + 1 : Nat) : Int) by omega]
   simp only [Option.bind_some]
   rw [List.getElem?_map, hy, Option.map_some]
   by_cases e1 : T v y = x <;> simp [e1]
 ·have h1 : ¬ ((e.kids.length : Int) = (l.length : Int)) := by omega
  have h2 : ¬ e.kids.map (T v) = l := fun q => h (by have := congrArg List.length q; simpa using this)
  simp [len_def, h1, h2]
theorem kidTypes_eq (H : TOK p sg R1 R2 T (en e)) (V : VOK p e v) (hN : 2000000 ≤ N) :
  impl_signatures_typeOf_B_L2 v sg e R2 N 0 (List.replicate e.kids.length 0) = some (if (e.kids.map (T v)).any (fun t => decide (t < 0)) = true then .inl (-1) else .inr (e.kids.map (T v))) := by
 have hk := V.klen
 have key : ∀ {N i : Nat}, i ≤ e.kids.length → e.kids.length - i < N → ∀ m : List Int, m.length = e.kids.length → m.take i = (e.kids.map (T v)).take i →
   impl_signatures_typeOf_B_L2 v sg e R2 N i m = some (if ((e.kids.map (T v)).drop i).any (fun t => decide (t < 0)) = true then .inl (-1) else .inr (e.kids.map (T v))) := by
  intro N i hi hN
  refine loop_ind e.kids.length (fun N i => ∀ m : List Int, m.length = e.kids.length → m.take i = (e.kids.map (T v)).take i →
   impl_signatures_typeOf_B_L2 v sg e R2 N i m = some (if ((e.kids.map (T v)).drop i).any (fun t => decide (t < 0)) = true then .inl (-1) else .inr (e.kids.map (T v)))) ?_ ?_ hi hN
  ·intro n m a b
   rw [impl_signatures_typeOf_B_L2, if_neg (by simp [len_def])]
   rw [List.take_of_length_le (by omega), List.take_of_length_le (by simp)] at b
   rw [b, List.drop_of_length_le (by simp)]; simp
  ·intro n i hi ih m a b
   obtain ⟨x, hx, hxm⟩ := at_lt hi
   obtain ⟨y, hy, _⟩ := at_lt (l := m) (i := i) (by omega)
   have hx2 : (e.kids.map (T v))[i]? = some (T v x) := by rw [List.getElem?_map, hx]; rfl
   have hi' : (m.set i (T v x))[i]? = some (T v x) := by rw [List.getElem?_set_self (by omega)]
   rw [impl_signatures_typeOf_B_L2, if_pos (by simp [len_def]; omega), get_lt hx]
   simp only [Option.bind_some]
   rw [(H v x (V.inn.kids x hxm) (en_kid hxm) (V.kid hxm) V.tys).2.1, get_lt hy]
   simp only [Option.bind_some]
   rw [put_nat, get_lt hi', drop_cons hx2]
   simp only [Option.bind_some, List.any_cons]
   by_cases h : T v x < 0
   ·simp [h]
   ·rw [if_neg (by simpa using h), w_id (by omega) (by omega), show ((i : Int) + 1) = ((i + 1 : Nat) : Int) by omega, ih (m.set i (T v x)) (by simp [a]) (by rw [take_snoc hi', take_snoc hx2, ← b, List.take_set_of_le (Nat.le_refl _)])]
    simp [h]
 have := key (Nat.zero_le _) (by omega : e.kids.length - 0 < N) (List.replicate e.kids.length 0) (by simp) rfl
 simpa using this
theorem extend_eq {a b : List Int} (ha : a.length ≤ 1000) (hb : b.length ≤ 1000) : spec_extend a b = some (a ++ b) := by
 unfold spec_extend spec_copyInts
 rw [app_ok [] a 8 (by simp; omega) (by simp; omega)]
 simp only [Option.bind_some, List.nil_append]
 rw [app_ok a b 8 (by omega) (by omega)]; rfl
theorem Concat_eq {a b : List Int} (ha : a.length ≤ 1000) (hb : b.length ≤ 1000) (hN : 2000000 ≤ N) : slices_Concat_int_int N [a, b] = some (a ++ b) := by
 obtain ⟨n, rfl⟩ : ∃ n, N = n + 3 := ⟨N - 3, by omega⟩
 unfold slices_Concat_int_int
 have e1 : slices_Concat_int_int_L1 [a, b] (n + 3) 0 0 = some ((a.length + b.length : Nat) : Int) := by
  rw [slices_Concat_int_int_L1, if_pos (by simp [len_def]), show Sh.get [a, b] 0 = some a from rfl]
  simp only [Option.bind_some]
  rw [len_def, w_id (n := (0 : Int) + 1) (by omega) (by omega), w_id (by omega) (by omega), if_neg (by rw [decide_eq_true_eq]; omega)]
  rw [slices_Concat_int_int_L1, if_pos (by simp [len_def]), show Sh.get [a, b] (0 + 1) = some b from rfl]
  simp only [Option.bind_some]
  rw [len_def, w_id (n := (0 : Int) + 1 + 1) (by omega) (by omega), w_id (by omega) (by omega), if_neg (by rw [decide_eq_true_eq]; omega)]
  rw [slices_Concat_int_int_L1, if_neg (by simp [len_def])]
  congr 1; omega
 have e2 : slices_Concat_int_int_L2 [a, b] (n + 3) 0 [] = some (a ++ b) := by
  rw [slices_Concat_int_int_L2, if_pos (by simp [len_def]), show Sh.get [a, b] 0 = some a from rfl]
  simp only [Option.bind_some]
  rw [app_ok [] a 8 (by simp; omega) (by simp; omega), w_id (n := (0 : Int) + 1) (by omega) (by omega)]
  simp only [Option.bind_some, List.nil_append]
  rw [slices_Concat_int_int_L2, if_pos (by simp [len_def]), show Sh.get [a, b] (0 + 1) = some b from rfl]
  simp only [Option.bind_some]
  rw [app_ok a b 8 (by omega) (by omega), w_id (n := (0 : Int) + 1 + 1) (by omega) (by omega)]
  simp only [Option.bind_some]
  rw [slices_Concat_int_int_L2, if_neg (by simp [len_def])]
 have e3 : slices_Grow_int_int ((a.length + b.length : Nat) : Int) = some [] := by
  unfold slices_Grow_int_int
  rw [if_neg (by simp; omega), w_id (n := (0 : Int) - 0) (by omega) (by omega), w_id (by omega) (by omega)]
  by_cases h : 0 < a.length + b.length
  ·rw [if_pos (by simp; omega), show (((a.length + b.length : Nat) : Int) - (0 - 0)) = ((a.length + b.length : Nat) : Int) by omega, mk_ok _ _ _ (by omega) (by omega)]
   simp only [Option.bind_some]
   have := hi_ok (l := List.replicate (a.length + b.length) (0 : Int)) (j := 0) (by omega)
   rw [show ((0 : Nat) : Int) = 0 from rfl] at this
   rw [this]; rfl
  ·rw [if_neg (by simp; omega)]; rfl
 rw [e1]
 simp only [Option.bind_some]
 rw [e3]
 simp only [Option.bind_some]
 rw [e2]; rfl
def oneM : List Int → Int
 | [] => -1
 | t :: r => if r.all (fun x => decide (x = t)) = true then t else -1
theorem oneType_eq (H : TOK p sg R1 R2 T (en e)) (V : VOK p e v) (hN : 2000000 ≤ N) {ks : List RExpr} {ms : List (List Int)} (hks : ∀ k ∈ ks, k ∈ e.kids) (hkl : ks.length ≤ 340) (hl : ms.length = ks.length) (hm : ∀ m ∈ ms, m.length ≤ 3 ∧ ∀ x ∈ m, tyB p.decls x = true) :
  impl_signatures_oneType N R2 sg v ks ms = some (oneM (List.zipWith (fun m k => T (v ++ m) k) ms ks)) := by
 unfold impl_signatures_oneType
 have hvl : v.length ≤ 1000 := by have := V.len; omega
 have step : ∀ (n i : Nat) (r : Int) k m, ks[i]? = some k → ms[i]? = some m → impl_signatures_oneType_L1 N sg v ks ms R2 (n + 1) r i = if T (v ++ m) k < 0 ∨ (0 < i ∧ T (v ++ m) k ≠ r) then some (.inl (-1)) else impl_signatures_oneType_L1 N sg v ks ms R2 n (T (v ++ m) k) ((i + 1 : Nat) : Int) := by
  intro n i r k m hk hmm
  have hi := (List.getElem?_eq_some_iff.1 hk).1
  have hmo := hm m (List.mem_of_getElem? hmm)
  have hke := hks k (List.mem_of_getElem? hk)
  rw [impl_signatures_oneType_L1, if_pos (by simp [len_def]; omega), get_lt hk]
  simp only [Option.bind_some]
  rw [get_lt hmm]
  simp only [Option.bind_some]
  rw [Concat_eq hvl (by omega) hN]
  simp only [Option.bind_some]
  rw [(H (v ++ m) k (V.inn.kids k hke) (en_kid hke) (V.more hke hmo.1) (V.tys2 hmo.2)).2.1]
  simp only [Option.bind_some]
  rw [w_id (by omega) (by omega), show ((i : Int) + 1) = ((i + 1 : Nat) : Int) by omega]
  by_cases h1 : T (v ++ m) k < 0
  ·simp [h1]
  ·by_cases h2 : 0 < i
   ·by_cases h3 : T (v ++ m) k = r
    ·have h1' : ¬ r < 0 := h3 ▸ h1
     simp [h1', h2, h3]
    ·simp [h1, h2, h3]
   ·simp [h1, h2]
 have rest : ∀ (d i n : Nat) (r : Int), ks.length - i = d → 0 < i → i ≤ ks.length → d < n → impl_signatures_oneType_L1 N sg v ks ms R2 n r i = some (if ((List.zipWith (fun m k => T (v ++ m) k) ms ks).drop i).all (fun x => decide (x = r)) = true then (if ((List.zipWith (fun m k => T (v ++ m) k) ms ks).drop i).any (fun x => decide (x < 0)) = true then .inl (-1) else .inr r) else .inl (-1)) := by
  intro d
  induction d with
  | zero =>
   intro i n r h1 h2 h3 h4
   obtain ⟨n, rfl⟩ : ∃ q, n = q + 1 := ⟨n - 1, by omega⟩
   rw [impl_signatures_oneType_L1, if_neg (by simp [len_def]; omega), List.drop_of_length_le (by simp; omega)]; rfl
  | succ d ih =>
   intro i n r h1 h2 h3 h4
   obtain ⟨n, rfl⟩ : ∃ q, n = q + 1 := ⟨n - 1, by omega⟩
   obtain ⟨k, hk, _⟩ := at_lt (l := ks) (i := i) (by omega)
   obtain ⟨m, hmm, _⟩ := at_lt (l := ms) (i := i) (by omega)
   have hz : (List.zipWith (fun m k => T (v ++ m) k) ms ks)[i]? = some (T (v ++ m) k) := by rw [List.getElem?_zipWith, hk, hmm]
   rw [step n i r k m hk hmm, drop_cons hz, List.all_cons, List.any_cons]
   by_cases h5 : T (v ++ m) k = r
   ·by_cases h6 : T (v ++ m) k < 0
    ·rw [if_pos (.inl h6)]
     have h6' : r < 0 := h5 ▸ h6
     simp [h5, h6']
    ·rw [if_neg (by rintro (h | h); exact h6 h; exact h.2 h5), ih (i + 1) n _ (by omega) (by omega) (by omega) (by omega)]
     have h6' : ¬ r < 0 := h5 ▸ h6
     simp [h5, h6']
   ·rw [if_pos (.inr ⟨h2, h5⟩)]
    simp [h5]
 cases hks0 : ks with
 | nil =>
  obtain ⟨n, rfl⟩ : ∃ q, N = q + 1 := ⟨N - 1, by omega⟩
  rw [impl_signatures_oneType_L1, if_neg (by simp [len_def])]
  simp [oneM]
 | cons k r =>
  cases hms0 : ms with
  | nil => rw [hks0, hms0] at hl; simp at hl
  | cons m s =>
   rw [← hks0, ← hms0]
   obtain ⟨n, hn⟩ : ∃ q, N = q + 1 := ⟨N - 1, by omega⟩
   have h0 := step n 0 (-1) k m (by rw [hks0]; rfl) (by rw [hms0]; rfl)
   rw [show ((0 : Nat) : Int) = 0 from rfl] at h0
   have hke := hks k (by rw [hks0]; simp)
   have hmo := hm m (by rw [hms0]; simp)
   have hT := (H (v ++ m) k (V.inn.kids k hke) (en_kid hke) (V.more hke hmo.1) (V.tys2 hmo.2)).2.2
   rw [show impl_signatures_oneType_L1 N sg v ks ms R2 N (-1) 0 = impl_signatures_oneType_L1 N sg v ks ms R2 (n + 1) (-1) 0 by rw [← hn], h0]
   have hzc : List.zipWith (fun m k => T (v ++ m) k) ms ks = T (v ++ m) k :: List.zipWith (fun m k => T (v ++ m) k) s r := by rw [hks0, hms0]; rfl
   rw [hzc]
   unfold oneM
   by_cases h1 : T (v ++ m) k < 0
   ·rw [if_pos (.inl h1)]
    have : T (v ++ m) k = -1 := by
     rcases hT with h | h
     ·exact h
     ·have := (tyB_nn h).1; omega
    rw [this]
    simp
   ·rw [if_neg (by rintro (h | h); exact h1 h; omega), rest _ 1 n _ rfl (by omega) (by rw [hks0]; simp) (by omega), hzc, List.drop_succ_cons, List.drop_zero]
    by_cases h2 : (List.zipWith (fun m k => T (v ++ m) k) s r).all (fun x => decide (x = T (v ++ m) k)) = true
    ·have h3 : ¬ (List.zipWith (fun m k => T (v ++ m) k) s r).any (fun x => decide (x < 0)) = true := fun h => by
      obtain ⟨x, hx, hx2⟩ := List.any_eq_true.1 h
      have := List.all_eq_true.1 h2 x hx
      simp only [decide_eq_true_eq] at this hx2
      omega
     rw [if_pos h2, if_neg h3]
     dsimp only
     rw [if_pos h2]; rfl
    ·rw [if_neg h2]
     dsimp only
     rw [if_neg h2]; rfl
end
end RC



namespace RC
open Go
theorem w_wrap {n : Int} (h1 : n < -9223372036854775808) (h2 : -18446744073709551616 ≤ n) : Sh.w n = n + 18446744073709551616 := by
 unfold Sh.w
 rw [IntKind.wrap_i64]; omega
theorem impl_conAt_out {D : List RDecl} (hD : D.length ≤ 1048576) (hn : nc D ≤ 1048576) {c : Int} (hI : I64 c) (hc : c < 0 ∨ (nc D : Int) ≤ c) {N : Nat} (hN : 2000000 ≤ N) : impl_conAt N D c = some (-1, ⟨[]⟩) := by
 have key : ∀ (m j N : Nat) (c : Int), D.length - j = m → j ≤ D.length → m < N → I64 c → (c < 0 ∨ (nc (D.drop j) : Int) ≤ c) → impl_conAt_L1 D N c j = some (.inr ()) := by
  intro m
  induction m with
  | zero =>
   intro j N c h1 h2 h3 _ _
   obtain ⟨N, rfl⟩ : ∃ n, N = n + 1 := ⟨N - 1, by omega⟩
   rw [impl_conAt_L1, if_neg (by simp [len_def]; omega)]
  | succ m ih =>
   intro j N c h1 h2 h3 hI h4
   obtain ⟨N, rfl⟩ : ∃ n, N = n + 1 := ⟨N - 1, by omega⟩
   obtain ⟨d, hd, _⟩ := at_lt (l := D) (i := j) (by omega)
   have hs := nc_split D j
   rw [nc_drop hd] at h4 hs
   rw [impl_conAt_L1, if_pos (by simp [len_def]; omega), get_lt hd]
   simp only [Option.bind_some]
   have hlo := hI.1
   have hhi := hI.2
   have e1 : ¬ (0 ≤ c ∧ c < (d.cons.length : Int)) := by omega
   have e2 : (if decide (0 ≤ c) = true then some (decide (c < Sh.len d.cons)) else some false) = some false := by
    by_cases h0 : 0 ≤ c
    ·have : ¬ c < (d.cons.length : Int) := by omega
     simp [h0, len_def, this]
    ·simp [h0]
   rw [w_id (n := (j : Int) + 1) (by omega) (by omega), show ((j : Int) + 1) = ((j + 1 : Nat) : Int) by omega, len_def]
   rw [len_def] at e2
   by_cases h5 : c - (d.cons.length : Int) < -9223372036854775808
   ·have := ih (j + 1) N (Sh.w (c - (d.cons.length : Int))) (by omega) (by omega) (by omega) (by rw [w_wrap h5 (by omega)]; unfold I64; omega) (by rw [w_wrap h5 (by omega)]; omega)
    rw [e2]
    simp only [Option.bind_some, Bool.false_eq_true, if_false]
    exact this
   ·have := ih (j + 1) N (Sh.w (c - (d.cons.length : Int))) (by omega) (by omega) (by omega) (by rw [w_id (by omega) (by omega)]; unfold I64; omega) (by rw [w_id (by omega) (by omega)]; omega)
    rw [e2]
    simp only [Option.bind_some, Bool.false_eq_true, if_false]
    exact this
 have := key D.length 0 N c (by omega) (by omega) (by omega) hI (by simpa using hc)
 unfold impl_conAt
 rw [show (((0 : Nat) : Int)) = 0 from rfl] at this
 rw [this]; rfl
theorem conF_mem : ∀ {D : List RDecl} {k c t : Nat} {x : RCon}, conF D k c = some (t, x) → k < t ∧ t ≤ k + D.length ∧ ∃ d ∈ D, x ∈ d.cons
 | [], _, _, _, _, h => by simp [conF] at h
 | d :: r, k, c, t, x, h => by
  unfold conF at h
  cases hx : d.cons[c]? with
  | some y =>
   rw [hx] at h
   simp only [Option.some.injEq, Prod.mk.injEq] at h
   obtain ⟨rfl, rfl⟩ := h
   exact ⟨by omega, by simp, d, by simp, List.mem_of_getElem? hx⟩
  | none =>
   rw [hx] at h
   obtain ⟨h1, h2, e, h3, h4⟩ := conF_mem h
   exact ⟨by omega, by simp; omega, e, by simp [h3], h4⟩
def isArr (a b : Int) (d : RDecl) : Bool := decide (d.cons.length = 0) && (decide (d.from_ = a) && decide (d.to = b))
def arrI (a b : Int) : List RDecl → Nat → Int
 | [], _ => -1
 | d :: r, k => if isArr a b d = true then (k : Int) + 1 else arrI a b r (k + 1)
theorem arrI_ty {a b : Int} : ∀ (l : List RDecl) (k : Nat), arrI a b l k = -1 ∨ ((k : Int) < arrI a b l k ∧ arrI a b l k ≤ k + l.length)
 | [], _ => .inl rfl
 | d :: r, k => by
  unfold arrI
  by_cases h : isArr a b d = true
  ·rw [if_pos h]; right; simp only [List.length_cons]; omega
  ·rw [if_neg h]
   rcases arrI_ty r (k + 1) with h1 | h1
   ·exact .inl h1
   ·right; simp only [List.length_cons]; omega
theorem arr_cond {a b : Int} {d : RDecl} : (if decide ((Sh.len d.cons) = 0) = true then if decide (d.from_ = a) = true then some (decide (d.to = b)) else some false else some false) = some (isArr a b d) := by
 unfold isArr
 by_cases h1 : d.cons.length = 0 <;> by_cases h2 : d.from_ = a <;> simp [len_def, h1, h2]
theorem spec_arrowOf_eq {D : List RDecl} (hD : D.length ≤ 1048576) {a b : Int} {N : Nat} (hN : 2000000 ≤ N) : spec_arrowOf N D a b = some (arrI a b D 0) := by
 unfold spec_arrowOf
 have key : ∀ {M i : Nat}, i ≤ D.length → D.length - i < M → Sh.cont (spec_arrowOf_L1 D a b M i) id (fun () => some (-1)) = some (arrI a b (D.drop i) i) := by
  intro M i hi hM
  refine loop_ind D.length (fun M i => Sh.cont (spec_arrowOf_L1 D a b M i) id (fun () => some (-1)) = some (arrI a b (D.drop i) i)) ?_ ?_ hi hM
  ·intro n; rw [spec_arrowOf_L1, if_neg (by simp [len_def])]; simp [arrI, Sh.cont]
  ·intro n i hi ih
   obtain ⟨d, hd, _⟩ := at_lt hi
   rw [spec_arrowOf_L1, if_pos (by simp [len_def]; omega), get_lt hd, drop_cons hd]
   simp only [Option.bind_some]
   rw [arr_cond, w_id (by omega) (by omega), show ((i : Int) + 1) = ((i + 1 : Nat) : Int) by omega]
   simp only [Option.bind_some, arrI]
   by_cases h : isArr a b d = true
   ·rw [if_pos h, if_pos h]; simp [Sh.cont]
   ·rw [if_neg h, if_neg h, ih]
 have := key (Nat.zero_le _) (by omega : D.length - 0 < N)
 simpa using this
theorem impl_arrowOf_eq {D : List RDecl} (hD : D.length ≤ 1048576) {a b : Int} {N : Nat} (hN : 2000000 ≤ N) : impl_arrowOf N D a b = some (arrI a b D 0) := by
 unfold impl_arrowOf
 have key : ∀ {M i : Nat}, i ≤ D.length → D.length - i < M → Sh.cont (impl_arrowOf_L1 D a b M i) id (fun () => some (-1)) = some (arrI a b (D.drop i) i) := by
  intro M i hi hM
  refine loop_ind D.length (fun M i => Sh.cont (impl_arrowOf_L1 D a b M i) id (fun () => some (-1)) = some (arrI a b (D.drop i) i)) ?_ ?_ hi hM
  ·intro n; rw [impl_arrowOf_L1, if_neg (by simp [len_def])]; simp [arrI, Sh.cont]
  ·intro n i hi ih
   obtain ⟨d, hd, _⟩ := at_lt hi
   rw [impl_arrowOf_L1, if_pos (by simp [len_def]; omega), get_lt hd, drop_cons hd]
   simp only [Option.bind_some]
   rw [arr_cond, w_id (by omega) (by omega), show ((i : Int) + 1) = ((i + 1 : Nat) : Int) by omega]
   simp only [Option.bind_some, arrI]
   by_cases h : isArr a b d = true
   ·rw [if_pos h, if_pos h]; simp [Sh.cont]
   ·rw [if_neg h, if_neg h, ih]
 have := key (Nat.zero_le _) (by omega : D.length - 0 < N)
 simpa using this
def arrD (D : List RDecl) (t : Int) : Option RDecl := if 1 ≤ t ∧ t ≤ (D.length : Int) then (D[(t - 1).toNat]?).bind fun d => if d.cons.length = 0 then some d else none else none
theorem arrD_mem {D : List RDecl} {t : Int} {d : RDecl} (h : arrD D t = some d) : d ∈ D ∧ 1 ≤ t ∧ t ≤ (D.length : Int) ∧ D[(t - 1).toNat]? = some d := by
 unfold arrD at h
 split at h
 ·rename_i h1
  obtain ⟨e, he, h2⟩ := Option.bind_eq_some_iff.1 h
  split at h2
  ·cases h2; exact ⟨List.mem_of_getElem? he, h1.1, h1.2, he⟩
  ·cases h2
 ·cases h
theorem impl_arrowAt_eq {D : List RDecl} (hD : D.length ≤ 1048576) {t : Int} : impl_arrowAt D t = some ((arrD D t).elim (⟨0, 0, []⟩, false) fun d => (d, true)) := by
 unfold impl_arrowAt arrD
 by_cases h : 1 ≤ t ∧ t ≤ (D.length : Int)
 ·obtain ⟨a, ha⟩ : ∃ a : Nat, t = (a : Int) + 1 := ⟨(t - 1).toNat, by omega⟩
  subst ha
  obtain ⟨d, hd, _⟩ := at_lt (l := D) (i := a) (by omega)
  have e1 : ¬ ((a : Int) + 1 < 1) := by omega
  have e2 : ¬ ((D.length : Int) < (a : Int) + 1) := by omega
  rw [if_pos h, w_id (by omega) (by omega), show ((a : Int) + 1 - 1) = ((a : Nat) : Int) by omega, get_lt hd, Int.toNat_natCast, hd]
  by_cases h2 : d.cons.length = 0
  ·have h2' : d.cons = [] := List.eq_nil_of_length_eq_zero h2
   simp [e1, e2, len_def, h2']
  ·have h3 : 0 < d.cons.length := by omega
   have h2' : ¬ d.cons = [] := fun q => h2 (by rw [q]; rfl)
   simp [e1, e2, len_def, h2', h3]
 ·rw [if_neg h]
  by_cases h1 : t < 1
  ·simp [h1]
  ·have h2 : (D.length : Int) < t := by omega
   simp [h1, len_def, h2]
theorem spec_isArrow_eq {D : List RDecl} (hD : D.length ≤ 1048576) {t : Int} : spec_isArrow D t = some (arrD D t).isSome := by
 unfold spec_isArrow arrD
 rw [inRange_eq]
 by_cases h : 1 ≤ t ∧ t ≤ (D.length : Int)
 ·obtain ⟨a, ha⟩ : ∃ a : Nat, t = (a : Int) + 1 := ⟨(t - 1).toNat, by omega⟩
  subst ha
  obtain ⟨d, hd, _⟩ := at_lt (l := D) (i := a) (by omega)
  have e1 : ((1 : Int) ≤ (a : Int) + 1) := by omega
  have e2 : ((a : Int) + 1 ≤ (D.length : Int)) := by omega
  rw [if_pos h, w_id (by omega) (by omega), show ((a : Int) + 1 - 1) = ((a : Nat) : Int) by omega, get_lt hd, Int.toNat_natCast, hd]
  by_cases h2 : d.cons = [] <;> simp [e1, e2, len_def, h2]
 ·rw [if_neg h]
  have : (decide (1 ≤ t) && decide (t ≤ Sh.len D)) = false := by
   rw [len_def]
   by_cases h1 : 1 ≤ t
   ·have h2 : ¬ t ≤ (D.length : Int) := fun q => h ⟨h1, q⟩
    simp [h1, h2]
   ·simp [h1]
  simp [this]
section
variable {p : RProgram} {sg : RSignatures} {R1 : RProgram → List Int → RExpr → Option Int} {R2 : List Int → RSignatures → RExpr → Option Int} {T : List Int → RExpr → Int} {e : RExpr} {v : List Int} {N : Nat}
theorem typeOf_kids (H : TOK p sg R1 R2 T (en e)) (V : VOK p e v) (hN : 2000000 ≤ N) (h1 : ¬ e.op = 12) (h2 : ¬ e.op = 13) (h3 : ¬ e.op = 7) (h4 : ¬ e.op = 8) :
  impl_signatures_typeOf_B N R2 v sg e = if (e.kids.map (T v)).any (fun t => decide (t < 0)) = true then some (-1) else Option.bind (impl_signatures_simpleType N sg e.op e.num (e.kids.map (T v))) fun q => if q.2 = true then some q.1 else some (-1) := by
 unfold impl_signatures_typeOf_B
 have hk := V.klen
 simp only [h1, h2, h3, h4, decide_false, Bool.false_eq_true, if_false]
 rw [len_def, mk_ok _ _ _ (by omega) (by omega)]
 simp only [Option.bind_some]
 rw [kidTypes_eq H V hN]
 by_cases h : (e.kids.map (T v)).any (fun t => decide (t < 0)) = true
 ·rw [if_pos h, if_pos h]; rfl
 ·rw [if_neg h, if_neg h]
  simp only [Sh.cont_inr]
  cases impl_signatures_simpleType N sg e.op e.num (e.kids.map (T v)) with
  | none => rfl
  | some q => simp only [Option.bind_some]; cases q.2 <;> rfl
theorem simple_of (H : TOK p sg R1 R2 T (en e)) (V : VOK p e v) (hN : 2000000 ≤ N) (h1 : ¬ e.op = 12) (h2 : ¬ e.op = 13) (h3 : ¬ e.op = 7) (h4 : ¬ e.op = 8) {want : List Int} {c : Bool} {t : Int} (hw : ∀ x ∈ want, 0 ≤ x)
  (hs : impl_signatures_simpleType N sg e.op e.num (e.kids.map (T v)) = some (t, c && decide (e.kids.map (T v) = want))) :
  impl_signatures_typeOf_B N R2 v sg e = some (if c = true ∧ e.kids.map (T v) = want then t else -1) := by
 rw [typeOf_kids H V hN h1 h2 h3 h4, hs]
 by_cases h : e.kids.map (T v) = want
 ·have : ¬ (e.kids.map (T v)).any (fun t => decide (t < 0)) = true := fun q => by
   obtain ⟨x, hx, hx2⟩ := List.any_eq_true.1 q
   have := hw x (h ▸ hx)
   simp only [decide_eq_true_eq] at hx2
   omega
  rw [if_neg this]
  cases c <;> simp [h]
 ·have hn : ¬ (c = true ∧ e.kids.map (T v) = want) := fun q => h q.2
  rw [if_neg hn]
  simp [h]
end
end RC



namespace RC
open Go
def sgP (p : RProgram) : RSignatures := ⟨p.decls, p.funcs.map fun f => ⟨f.params, [], f.result⟩⟩
section
variable {p : RProgram} {R1 : RProgram → List Int → RExpr → Option Int} {R2 : List Int → RSignatures → RExpr → Option Int} {T : List Int → RExpr → Int} {e : RExpr} {v : List Int} {N : Nat}
def Both (p : RProgram) (R1 : RProgram → List Int → RExpr → Option Int) (R2 : List Int → RSignatures → RExpr → Option Int) (N : Nat) (v : List Int) (e : RExpr) : Prop :=
 ∃ t, spec_typeOf_B N R1 p v e = some t ∧ impl_signatures_typeOf_B N R2 v (sgP p) e = some t ∧ (t = -1 ∨ tyB p.decls t = true)
theorem ty0 {D : List RDecl} : tyB D 0 = true := by unfold tyB; simp
theorem len_nil {α : Type} {l : List α} : decide ((Sh.len l) = 0) = decide (l = []) := by
 cases l with
 | nil => rfl
 | cons x r => exact decide_eq_decide.2 (by rw [len_def, List.length_cons]; exact ⟨fun h => by omega, fun h => nomatch h⟩)
theorem both_int (H : TOK p (sgP p) R1 R2 T (en e)) (V : VOK p e v) (hN : 2000000 ≤ N) (h : e.op = 0) : Both p R1 R2 N v e := by
 have h1 := simple_of H V hN (by omega) (by omega) (by omega) (by omega) (want := []) (c := decide (-999 ≤ e.num) && decide (e.num ≤ 999)) (t := 0) (by simp) (by
  unfold impl_signatures_simpleType
  simp only [h, decide_true, if_true, len_nil]
  by_cases a : -999 ≤ e.num <;> by_cases b : e.num ≤ 999 <;> simp [a, b, Sh.cont])
 refine ⟨_, ?_, h1, ?_⟩
 ·unfold spec_typeOf_B
  simp only [h, decide_true, if_true, len_nil, inRange_eq]
  by_cases a : -999 ≤ e.num <;> by_cases b : e.num ≤ 999 <;> by_cases c : e.kids = [] <;> simp [a, b, c, Sh.cont]
 ·split
  ·exact .inr ty0
  ·exact .inl rfl
theorem both_arith (H : TOK p (sgP p) R1 R2 T (en e)) (V : VOK p e v) (hN : 2000000 ≤ N) (h : e.op = 1 ∨ e.op = 2 ∨ e.op = 3 ∨ e.op = 4) : Both p R1 R2 N v e := by
 have hk := V.klen
 have h1 := simple_of H V hN (by omega) (by omega) (by omega) (by omega) (want := [0, 0]) (c := decide (e.num = 0)) (t := 0) (by simp) (by
  unfold impl_signatures_simpleType
  have e3 : slices_Equal_int_int N (e.kids.map (T v)) [0, 0] = some (decide (e.kids.map (T v) = [0, 0])) := Equal_eq (by simp; omega) hN
  rcases h with h | h | h | h <;> simp only [h, Int.reduceEq, decide_true, decide_false, Bool.false_eq_true, if_true, if_false, Option.bind_some, Sh.cont_inr] <;> rw [e3] <;> by_cases a : e.num = 0 <;> simp [a])
 refine ⟨_, ?_, h1, ?_⟩
 ·unfold spec_typeOf_B
  have e2 := allInts_eq H V hN 2
  rw [show ((2 : Nat) : Int) = 2 from rfl, show List.replicate 2 (0 : Int) = [0, 0] from rfl] at e2
  rcases h with h | h | h | h <;> simp only [h, Int.reduceEq, decide_true, decide_false, Bool.false_eq_true, if_true, if_false, Option.bind_some] <;> rw [e2] <;> by_cases a : e.num = 0 <;> by_cases b : e.kids.map (T v) = [0, 0] <;> simp [a, b, Sh.cont]
 ·split
  ·exact .inr ty0
  ·exact .inl rfl
theorem both_print (H : TOK p (sgP p) R1 R2 T (en e)) (V : VOK p e v) (hN : 2000000 ≤ N) (h : e.op = 5) : Both p R1 R2 N v e := by
 have hk := V.klen
 have h1 := simple_of H V hN (by omega) (by omega) (by omega) (by omega) (want := [0]) (c := decide (e.num = 0)) (t := 0) (by simp) (by
  unfold impl_signatures_simpleType
  simp only [h, Int.reduceEq, decide_true, decide_false, Bool.false_eq_true, if_true, if_false, Option.bind_some, Sh.cont_inr]
  rw [Equal_eq (by simp; omega) hN]
  by_cases a : e.num = 0 <;> simp [a])
 refine ⟨_, ?_, h1, ?_⟩
 ·unfold spec_typeOf_B
  have e2 := allInts_eq H V hN 1
  rw [show ((1 : Nat) : Int) = 1 from rfl, show List.replicate 1 (0 : Int) = [0] from rfl] at e2
  simp only [h, Int.reduceEq, decide_true, decide_false, Bool.false_eq_true, if_true, if_false, Option.bind_some]
  rw [e2]
  by_cases a : e.num = 0 <;> by_cases b : e.kids.map (T v) = [0] <;> simp [a, b, Sh.cont]
 ·split
  ·exact .inr ty0
  ·exact .inl rfl
theorem both_con (H : TOK p (sgP p) R1 R2 T (en e)) (V : VOK p e v) (S : SigOK p.decls p.funcs) (hN : 2000000 ≤ N) (h : e.op = 6) : Both p R1 R2 N v e := by
 have hk := V.klen
 have hD := S.dlen
 have hn := S.nc
 by_cases hr : 0 ≤ e.num ∧ e.num < (nc p.decls : Int)
 ·obtain ⟨c, hc⟩ := Int.eq_ofNat_of_zero_le hr.1
  have hc2 : c < nc p.decls := by omega
  obtain ⟨t, x, e1, e2⟩ := spec_conType_in (D := p.decls) (by omega) (by omega) hc2 hN
  obtain ⟨t', x', e1', e3⟩ := spec_conFields_eq (D := p.decls) (by omega) (by omega) hc2 hN
  obtain ⟨t'', x'', e1'', e4⟩ := impl_conAt_eq (D := p.decls) (by omega) (by omega) hc2 hN
  rw [e1] at e1' e1''
  cases e1'; cases e1''
  obtain ⟨g1, g2, d, g3, g4⟩ := conF_mem e1
  have hx := S.flds d g3 x g4
  have h1 := simple_of H V hN (by omega) (by omega) (by omega) (by omega) (want := x.fields) (c := true) (t := (t : Int)) (fun y hy => (tyB_nn (hx.2 y hy)).1) (by
   unfold impl_signatures_simpleType
   simp only [h, Int.reduceEq, decide_true, decide_false, Bool.false_eq_true, if_true, if_false, Option.bind_some]
   rw [hc, show (sgP p).decls = p.decls from rfl, e4]
   simp only [Option.bind_some]
   rw [Equal_eq (by simp; omega) hN, if_pos (by simp)]
   simp [Sh.cont])
  refine ⟨_, ?_, h1, ?_⟩
  ·unfold spec_typeOf_B
   simp only [h, Int.reduceEq, decide_true, decide_false, Bool.false_eq_true, if_true, if_false, Option.bind_some]
   rw [hc, e2, e3]
   simp only [Option.bind_some]
   rw [allOf_eq H V hN, if_pos (by simp; omega)]
   by_cases b : e.kids.map (T v) = x.fields <;> simp [b, Sh.cont]
  ·split
   ·right; unfold tyB; simp; omega
   ·exact .inl rfl
 ·refine ⟨-1, ?_, ?_, .inl rfl⟩
  ·unfold spec_typeOf_B
   simp only [h, Int.reduceEq, decide_true, decide_false, Bool.false_eq_true, if_true, if_false, Option.bind_some]
   rw [spec_conType_out (by omega) (by omega) (by omega) hN]
   simp [Sh.cont]
  ·rw [typeOf_kids H V hN (by omega) (by omega) (by omega) (by omega)]
   unfold impl_signatures_simpleType
   simp only [h, Int.reduceEq, decide_true, decide_false, Bool.false_eq_true, if_true, if_false, Option.bind_some]
   rw [show (sgP p).decls = p.decls from rfl, impl_conAt_out (by omega) (by omega) V.inn.num (by omega) hN]
   simp [Sh.cont]
theorem both_other (H : TOK p (sgP p) R1 R2 T (en e)) (V : VOK p e v) (hN : 2000000 ≤ N) (h : e.op < 0 ∨ 13 < e.op) : Both p R1 R2 N v e := by
 refine ⟨-1, ?_, ?_, .inl rfl⟩
 ·unfold spec_typeOf_B
  simp only [show ¬ e.op = 0 by omega, show ¬ e.op = 12 by omega, show ¬ e.op = 1 by omega, show ¬ e.op = 2 by omega, show ¬ e.op = 3 by omega, show ¬ e.op = 4 by omega, show ¬ e.op = 5 by omega, show ¬ e.op = 6 by omega, show ¬ e.op = 13 by omega, show ¬ e.op = 7 by omega, show ¬ e.op = 8 by omega, show ¬ e.op = 9 by omega, show ¬ e.op = 10 by omega, show ¬ e.op = 11 by omega, decide_false, Bool.false_eq_true, if_false, Option.bind_some]
  simp [Sh.cont]
 ·rw [typeOf_kids H V hN (by omega) (by omega) (by omega) (by omega)]
  unfold impl_signatures_simpleType
  simp only [show ¬ e.op = 0 by omega, show ¬ e.op = 12 by omega, show ¬ e.op = 1 by omega, show ¬ e.op = 2 by omega, show ¬ e.op = 3 by omega, show ¬ e.op = 4 by omega, show ¬ e.op = 5 by omega, show ¬ e.op = 6 by omega, show ¬ e.op = 13 by omega, show ¬ e.op = 7 by omega, show ¬ e.op = 8 by omega, show ¬ e.op = 9 by omega, show ¬ e.op = 10 by omega, show ¬ e.op = 11 by omega, decide_false, Bool.false_eq_true, if_false, Option.bind_some]
  simp [Sh.cont]
theorem both_var (V : VOK p e v) (h : e.op = 12) : Both p R1 R2 N v e := by
 have hv : v.length ≤ 1000 := by have := V.len; omega
 unfold Both spec_typeOf_B impl_signatures_typeOf_B
 simp only [h, Int.reduceEq, decide_true, decide_false, Bool.false_eq_true, if_true, if_false, Option.bind_some, len_nil, inRange_eq]
 rw [len_def, w_id (by omega) (by omega)]
 cases hks : e.kids with
 | cons a r => exact ⟨-1, by simp [Sh.cont], by simp [len_def], .inl rfl⟩
 | nil =>
  by_cases h1 : 0 ≤ e.num
  ·by_cases h2 : e.num < (v.length : Int)
   ·obtain ⟨x, g1, g2⟩ := get_pos h1 h2
    have h3 : e.num ≤ (v.length : Int) - 1 := by omega
    have h4 : ¬ e.num < 0 := by omega
    have h5 : ¬ (v.length : Int) ≤ e.num := by omega
    refine ⟨x, ?_, ?_, .inr (V.tys x (List.mem_of_getElem? g2))⟩
    ·simp [h1, h3, g1, Sh.cont]
    ·simp [h4, h5, g1, len_def]
   ·have h3 : ¬ e.num ≤ (v.length : Int) - 1 := by omega
    have h4 : ¬ e.num < 0 := by omega
    have h5 : (v.length : Int) ≤ e.num := by omega
    exact ⟨-1, by simp [h1, h3, Sh.cont], by simp [h4, h5, len_def], .inl rfl⟩
  ·have h4 : e.num < 0 := by omega
   exact ⟨-1, by simp [h1, Sh.cont], by simp [h4, len_def], .inl rfl⟩
end
end RC



namespace RC
open Go
section
variable {p : RProgram} {R1 : RProgram → List Int → RExpr → Option Int} {R2 : List Int → RSignatures → RExpr → Option Int} {T : List Int → RExpr → Int} {e : RExpr} {v : List Int} {N : Nat}
theorem both_let (H : TOK p (sgP p) R1 R2 T (en e)) (V : VOK p e v) (h : e.op = 13) : Both p R1 R2 N v e := by
 have hv : v.length ≤ 1000 := by have := V.len; omega
 unfold Both spec_typeOf_B impl_signatures_typeOf_B
 simp only [h, Int.reduceEq, decide_true, decide_false, Bool.false_eq_true, if_true, if_false, Option.bind_some]
 by_cases hl : e.kids.length = 2
 ·obtain ⟨a, b, hk⟩ : ∃ a b, e.kids = [a, b] := by
   match hk : e.kids, hl with
   | [a, b], _ => exact ⟨a, b, rfl⟩
  have hma : a ∈ e.kids := by rw [hk]; simp
  have hmb : b ∈ e.kids := by rw [hk]; simp
  obtain ⟨a1, a2, a3⟩ := H v a (V.inn.kids a hma) (en_kid hma) (V.kid hma) V.tys
  have g0 : Sh.get e.kids 0 = some a := by rw [hk]; rfl
  have g1 : Sh.get e.kids 1 = some b := by rw [hk]; rfl
  rw [g0, g1]
  simp only [Option.bind_some, len_def, hl]
  rw [a1, a2]
  simp only [Option.bind_some]
  by_cases hn : e.num = 0
  ·by_cases ht : 0 ≤ T v a
   ·have ht' : ¬ T v a < 0 := by omega
    have hty : tyB p.decls (T v a) = true := by
     rcases a3 with q | q
     ·omega
     ·exact q
    obtain ⟨b1, b2, b3⟩ := H (v ++ [T v a]) b (V.inn.kids b hmb) (en_kid hmb) (V.more hmb (by simp)) (V.tys2 (by simp [hty]))
    refine ⟨T (v ++ [T v a]) b, ?_, ?_, b3⟩
    ·rw [extend_eq hv (by simp)]
     simp [hn, ht, b1, Sh.cont]
    ·rw [app_ok v [T v a] 8 (by simp; omega) (by simp; omega)]
     simp [hn, ht', b2]
   ·have ht' : T v a < 0 := by omega
    exact ⟨-1, by simp [hn, ht, Sh.cont], by simp [hn, ht'], .inl rfl⟩
  ·exact ⟨-1, by simp [hn, Sh.cont], by simp [hn], .inl rfl⟩
 ·have hl' : ¬ ((e.kids.length : Int) = 2) := by omega
  refine ⟨-1, ?_, ?_, .inl rfl⟩
  ·by_cases hn : e.num = 0 <;> simp [hn, len_def, hl', Sh.cont]
  ·simp [len_def, hl']
theorem oneM_two (x y : Int) : oneM [x, y] = if y = x then x else -1 := by
 unfold oneM
 by_cases h : y = x <;> simp [h]
theorem both_if (H : TOK p (sgP p) R1 R2 T (en e)) (V : VOK p e v) (hN : 2000000 ≤ N) (h : e.op = 7) : Both p R1 R2 N v e := by
 have hv : v.length ≤ 1000 := by have := V.len; omega
 unfold Both spec_typeOf_B impl_signatures_typeOf_B
 simp only [h, Int.reduceEq, decide_true, decide_false, Bool.false_eq_true, if_true, if_false, Option.bind_some]
 by_cases hl : e.kids.length = 3
 ·obtain ⟨a, b, c, hk⟩ : ∃ a b c, e.kids = [a, b, c] := by
   match hk : e.kids, hl with
   | [a, b, c], _ => exact ⟨a, b, c, rfl⟩
  have hma : a ∈ e.kids := by rw [hk]; simp
  have hmb : b ∈ e.kids := by rw [hk]; simp
  have hmc : c ∈ e.kids := by rw [hk]; simp
  obtain ⟨a1, a2, a3⟩ := H v a (V.inn.kids a hma) (en_kid hma) (V.kid hma) V.tys
  obtain ⟨b1, b2, b3⟩ := H v b (V.inn.kids b hmb) (en_kid hmb) (V.kid hmb) V.tys
  obtain ⟨c1, c2, c3⟩ := H v c (V.inn.kids c hmc) (en_kid hmc) (V.kid hmc) V.tys
  have g0 : Sh.get e.kids 0 = some a := by rw [hk]; rfl
  have g1 : Sh.get e.kids 1 = some b := by rw [hk]; rfl
  have g2 : Sh.get e.kids 2 = some c := by rw [hk]; rfl
  have g3 : Sh.sl e.kids 1 3 = some [b, c] := by rw [hk]; rfl
  have o := oneType_eq (ks := [b, c]) (ms := [[], []]) H V hN (by intro k hk; simp only [List.mem_cons, List.not_mem_nil, or_false] at hk; rcases hk with rfl | rfl <;> assumption) (by simp) rfl (by simp)
  have mk2 : Sh.mk ([] : List Int) 2 24 = some [[], []] := mk_ok [] 2 24 (by omega) (by omega)
  rw [g0, g1, g2]
  simp only [Option.bind_some, len_def, hl]
  rw [a1, a2, b1, c1, show ((3 : Nat) : Int) = 3 from rfl, g3, mk2]
  simp only [Option.bind_some]
  rw [o]
  simp only [Option.bind_some, List.zipWith, List.append_nil, oneM_two]
  by_cases hn : e.num = 0
  ·by_cases ht : T v a = 0
   ·by_cases hq : T v c = T v b
    ·exact ⟨T v b, by simp [hn, ht, hq, Sh.cont], by simp [hn, ht, hq], b3⟩
    ·exact ⟨-1, by simp [hn, ht, hq, Sh.cont], by simp [hn, ht, hq], .inl rfl⟩
   ·exact ⟨-1, by simp [hn, ht, Sh.cont], by simp [hn, ht], .inl rfl⟩
  ·exact ⟨-1, by simp [hn, Sh.cont], by simp [hn], .inl rfl⟩
 ·have hl' : ¬ ((e.kids.length : Int) = 3) := by omega
  refine ⟨-1, ?_, ?_, .inl rfl⟩
  ·by_cases hn : e.num = 0 <;> simp [hn, len_def, hl', Sh.cont]
  ·simp [len_def, hl']
theorem fun_at {n : Int} : (∃ f, 0 ≤ n ∧ n < (p.funcs.length : Int) ∧ p.funcs[n.toNat]? = some f ∧ f ∈ p.funcs ∧ Sh.get p.funcs n = some f ∧ Sh.get (sgP p).funcs n = some ⟨f.params, [], f.result⟩) ∨ (n < 0 ∨ (p.funcs.length : Int) ≤ n) := by
 by_cases h : 0 ≤ n ∧ n < (p.funcs.length : Int)
 ·obtain ⟨f, h1, h2⟩ := get_pos h.1 h.2
  refine .inl ⟨f, h.1, h.2, h2, List.mem_of_getElem? h2, h1, ?_⟩
  rw [get_pos' h.1]
  show ((p.funcs.map fun f => (⟨f.params, [], f.result⟩ : RSignature)))[n.toNat]? = _
  rw [List.getElem?_map, h2]; rfl
 ·exact .inr (by omega)
theorem sg_len : (sgP p).funcs.length = p.funcs.length := by show (p.funcs.map _).length = _; simp
theorem both_call (H : TOK p (sgP p) R1 R2 T (en e)) (V : VOK p e v) (S : SigOK p.decls p.funcs) (hN : 2000000 ≤ N) (h : e.op = 9) : Both p R1 R2 N v e := by
 have hk := V.klen
 have hF := S.flen
 rcases fun_at (p := p) (n := e.num) with ⟨f, f0, f1, f2, f3, f4, f5⟩ | hr
 ·obtain ⟨q1, q2, q3⟩ := S.funs f f3
  have f0' : ¬ e.num < 0 := by omega
  have f1' : ¬ (p.funcs.length : Int) ≤ e.num := by omega
  have f1'' : e.num ≤ (p.funcs.length : Int) - 1 := by omega
  have h1 := simple_of H V hN (by omega) (by omega) (by omega) (by omega) (want := f.params) (c := true) (t := f.result) (fun y hy => (tyB_nn (q2 y hy)).1) (by
   unfold impl_signatures_simpleType
   simp only [h, Int.reduceEq, decide_true, decide_false, Bool.false_eq_true, if_true, if_false, Option.bind_some, len_def, sg_len, f0', f1']
   rw [f5]
   simp only [Option.bind_some]
   rw [Equal_eq (by simp; omega) hN]
   simp [Sh.cont])
  refine ⟨_, ?_, h1, ?_⟩
  ·unfold spec_typeOf_B spec_callType
   simp only [h, Int.reduceEq, decide_true, decide_false, Bool.false_eq_true, if_true, if_false, Option.bind_some]
   rw [inRange_eq, len_def p.funcs, w_id (n := (p.funcs.length : Int) - 1) (by omega) (by omega), f4]
   simp only [h, Int.reduceEq, decide_true, decide_false, Bool.false_eq_true, if_true, if_false, Option.bind_some, f0, f1'', Bool.and_self, Bool.not_true]
   rw [allOf_eq H V hN]
   by_cases b : e.kids.map (T v) = f.params <;> simp [b, Sh.cont]
  ·split
   ·exact .inr q3
   ·exact .inl rfl
 ·refine ⟨-1, ?_, ?_, .inl rfl⟩
  ·unfold spec_typeOf_B spec_callType
   simp only [h, Int.reduceEq, decide_true, decide_false, Bool.false_eq_true, if_true, if_false, Option.bind_some]
   rw [inRange_eq, len_def p.funcs, w_id (n := (p.funcs.length : Int) - 1) (by omega) (by omega)]
   have : (decide (0 ≤ e.num) && decide (e.num ≤ (p.funcs.length : Int) - 1)) = false := by
    rw [Bool.and_eq_false_iff, decide_eq_false_iff_not, decide_eq_false_iff_not]; omega
   rw [this]
   simp only [h, Int.reduceEq, decide_true, decide_false, Bool.false_eq_true, if_true, if_false, Option.bind_some]
   simp [Sh.cont]
  ·rw [typeOf_kids H V hN (by omega) (by omega) (by omega) (by omega)]
   unfold impl_signatures_simpleType
   simp only [h, Int.reduceEq, decide_true, decide_false, Bool.false_eq_true, if_true, if_false, Option.bind_some, len_def, sg_len]
   rcases hr with hr | hr
   ·simp [hr, Sh.cont]
   ·have : ¬ e.num < 0 := by omega
    simp [hr, this, Sh.cont]
theorem sl_drop {α : Type} {l : List α} {m : Nat} (h : m ≤ l.length) : Sh.sl l 0 (m : Int) = some (l.take m) := by
 unfold Sh.sl
 rw [if_pos ⟨by omega, by omega, by omega⟩]; simp
theorem both_close (H : TOK p (sgP p) R1 R2 T (en e)) (V : VOK p e v) (S : SigOK p.decls p.funcs) (hN : 2000000 ≤ N) (h : e.op = 10) : Both p R1 R2 N v e := by
 have hk := V.klen
 have hF := S.flen
 have hD := S.dlen
 rcases fun_at (p := p) (n := e.num) with ⟨f, f0, f1, f2, f3, f4, f5⟩ | hr
 ·obtain ⟨q1, q2, q3⟩ := S.funs f f3
  have f0' : ¬ e.num < 0 := by omega
  have f1' : ¬ (p.funcs.length : Int) ≤ e.num := by omega
  have f1'' : e.num ≤ (p.funcs.length : Int) - 1 := by omega
  by_cases hp : f.params.length = 0
  ·have hp' : f.params = [] := List.eq_nil_of_length_eq_zero hp
   refine ⟨-1, ?_, ?_, .inl rfl⟩
   ·unfold spec_typeOf_B spec_callType
    simp only [h, Int.reduceEq, decide_true, decide_false, Bool.false_eq_true, if_true, if_false, Option.bind_some]
    rw [inRange_eq, len_def p.funcs, w_id (n := (p.funcs.length : Int) - 1) (by omega) (by omega), f4]
    simp only [h, Int.reduceEq, decide_true, decide_false, Bool.false_eq_true, if_true, if_false, Option.bind_some, f0, f1'', Bool.and_self, Bool.not_true, len_nil, hp']
    simp [Sh.cont]
   ·rw [typeOf_kids H V hN (by omega) (by omega) (by omega) (by omega)]
    unfold impl_signatures_simpleType
    simp only [h, Int.reduceEq, decide_true, decide_false, Bool.false_eq_true, if_true, if_false, Option.bind_some, len_def, sg_len, f0', f1']
    rw [f5]
    simp only [Option.bind_some, hp]
    rw [w_id (by omega) (by omega)]
    simp [Sh.cont]
  ·obtain ⟨m, hm⟩ : ∃ m, f.params.length = m + 1 := ⟨f.params.length - 1, by omega⟩
   obtain ⟨x, hx, hxm⟩ := at_lt (l := f.params) (i := m) (by omega)
   have hp' : ¬ f.params = [] := fun q => hp (by rw [q]; rfl)
   have hw : Sh.w ((f.params.length : Int) - 1) = (m : Int) := by rw [w_id (by omega) (by omega)]; omega
   have hm0 : ¬ ((m : Int) < 0) := by omega
   have hty : arrI x f.result p.decls 0 = -1 ∨ tyB p.decls (arrI x f.result p.decls 0) = true := by
    rcases arrI_ty (a := x) (b := f.result) p.decls 0 with q | q
    ·exact .inl q
    ·right; unfold tyB; simp; omega
   have h1 := simple_of H V hN (by omega) (by omega) (by omega) (by omega) (want := f.params.take m) (c := decide (0 ≤ arrI x f.result p.decls 0)) (t := arrI x f.result p.decls 0) (fun y hy => (tyB_nn (q2 y (List.mem_of_mem_take hy))).1) (by
    unfold impl_signatures_simpleType
    simp only [h, Int.reduceEq, decide_true, decide_false, Bool.false_eq_true, if_true, if_false, Option.bind_some, len_def, sg_len, f0', f1']
    rw [f5]
    simp only [Option.bind_some, hw, hm0, decide_false, Bool.false_eq_true, if_false]
    rw [get_lt hx]
    simp only [Option.bind_some]
    rw [show (sgP p).decls = p.decls from rfl, impl_arrowOf_eq (by omega) hN, sl_drop (by omega)]
    simp only [Option.bind_some]
    rw [Equal_eq (by simp; omega) hN]
    by_cases z : 0 ≤ arrI x f.result p.decls 0 <;> simp [z, Sh.cont])
   refine ⟨_, ?_, h1, ?_⟩
   ·unfold spec_typeOf_B spec_callType
    simp only [h, Int.reduceEq, decide_true, decide_false, Bool.false_eq_true, if_true, if_false, Option.bind_some]
    rw [inRange_eq, len_def p.funcs, w_id (n := (p.funcs.length : Int) - 1) (by omega) (by omega), f4]
    simp only [h, Int.reduceEq, decide_true, decide_false, Bool.false_eq_true, if_true, if_false, Option.bind_some, f0, f1'', Bool.and_self, Bool.not_true, len_nil, hp']
    rw [len_def, hw, sl_drop (by omega), get_lt hx]
    simp only [Option.bind_some]
    rw [allOf_eq H V hN, spec_arrowOf_eq (by omega) hN]
    by_cases b : e.kids.map (T v) = f.params.take m
    ·by_cases z : 0 ≤ arrI x f.result p.decls 0
     ·simp [b, z, Sh.cont]
     ·have : arrI x f.result p.decls 0 = -1 := by
       rcases hty with q | q
       ·exact q
       ·exact absurd (tyB_nn q).1 z
      simp [b, this, Sh.cont]
    ·simp [b, Sh.cont]
   ·split
    ·exact hty
    ·exact .inl rfl
 ·refine ⟨-1, ?_, ?_, .inl rfl⟩
  ·unfold spec_typeOf_B spec_callType
   simp only [h, Int.reduceEq, decide_true, decide_false, Bool.false_eq_true, if_true, if_false, Option.bind_some]
   rw [inRange_eq, len_def p.funcs, w_id (n := (p.funcs.length : Int) - 1) (by omega) (by omega)]
   have : (decide (0 ≤ e.num) && decide (e.num ≤ (p.funcs.length : Int) - 1)) = false := by
    rw [Bool.and_eq_false_iff, decide_eq_false_iff_not, decide_eq_false_iff_not]; omega
   rw [this]
   simp only [h, Int.reduceEq, decide_true, decide_false, Bool.false_eq_true, if_true, if_false, Option.bind_some]
   simp [Sh.cont]
  ·rw [typeOf_kids H V hN (by omega) (by omega) (by omega) (by omega)]
   unfold impl_signatures_simpleType
   simp only [h, Int.reduceEq, decide_true, decide_false, Bool.false_eq_true, if_true, if_false, Option.bind_some, len_def, sg_len]
   rcases hr with hr | hr
   ·simp [hr, Sh.cont]
   ·have : ¬ e.num < 0 := by omega
    simp [hr, this, Sh.cont]
theorem both_apply (H : TOK p (sgP p) R1 R2 T (en e)) (V : VOK p e v) (S : SigOK p.decls p.funcs) (hN : 2000000 ≤ N) (h : e.op = 11) : Both p R1 R2 N v e := by
 have hk := V.klen
 have hD := S.dlen
 by_cases hl : e.kids.length = 2
 ·obtain ⟨a, b, hk⟩ : ∃ a b, e.kids = [a, b] := by
   match hk : e.kids, hl with
   | [a, b], _ => exact ⟨a, b, rfl⟩
  have hma : a ∈ e.kids := by rw [hk]; simp
  have hmb : b ∈ e.kids := by rw [hk]; simp
  obtain ⟨a1, a2, a3⟩ := H v a (V.inn.kids a hma) (en_kid hma) (V.kid hma) V.tys
  obtain ⟨b1, b2, b3⟩ := H v b (V.inn.kids b hmb) (en_kid hmb) (V.kid hmb) V.tys
  have g0 : Sh.get e.kids 0 = some a := by rw [hk]; rfl
  have g1 : Sh.get e.kids 1 = some b := by rw [hk]; rfl
  have i1 : Sh.get (e.kids.map (T v)) 0 = some (T v a) := by rw [hk]; rfl
  have i2 : Sh.get (e.kids.map (T v)) 1 = some (T v b) := by rw [hk]; rfl
  have imp : impl_signatures_typeOf_B N R2 v (sgP p) e = some ((arrD p.decls (T v a)).elim (-1) fun d => if T v b = d.from_ ∧ e.num = 0 then d.to else -1) := by
   rw [typeOf_kids H V hN (by omega) (by omega) (by omega) (by omega)]
   unfold impl_signatures_simpleType
   simp only [h, Int.reduceEq, decide_true, decide_false, Bool.false_eq_true, if_true, if_false, Option.bind_some, len_def, List.length_map, hl]
   rw [i1, i2]
   simp only [Option.bind_some]
   rw [show (sgP p).decls = p.decls from rfl, impl_arrowAt_eq (by omega)]
   simp only [Option.bind_some]
   cases hA : arrD p.decls (T v a) with
   | none => simp [Sh.cont]
   | some d =>
    obtain ⟨m1, m2, m3, m4⟩ := arrD_mem hA
    have m5 := S.arrs d m1
    have n1 : ¬ T v a < 0 := by omega
    by_cases c1 : T v b = d.from_
    ·have n2 : ¬ T v b < 0 := by rw [c1]; have := (tyB_nn m5.1).1; omega
     have n3 : ¬ d.from_ < 0 := c1 ▸ n2
     by_cases c2 : e.num = 0 <;> simp [hk, n1, c1, n3, c2, Sh.cont]
    ·simp [c1, Sh.cont]
  refine ⟨_, ?_, imp, ?_⟩
  ·unfold spec_typeOf_B
   simp only [h, Int.reduceEq, decide_true, decide_false, Bool.false_eq_true, if_true, if_false, Option.bind_some, len_def, hl]
   rw [g0, g1]
   simp only [Option.bind_some]
   rw [a1]
   simp only [Option.bind_some]
   rw [spec_isArrow_eq (by omega), b1]
   simp only [Option.bind_some]
   cases hA : arrD p.decls (T v a) with
   | none => by_cases c2 : e.num = 0 <;> simp [c2, Sh.cont]
   | some d =>
    obtain ⟨m1, m2, m3, m4⟩ := arrD_mem hA
    have g5 : Sh.get p.decls (Sh.w (T v a - 1)) = some d := by rw [w_id (by omega) (by omega), get_pos' (by omega), m4]
    rw [g5]
    by_cases c2 : e.num = 0 <;> by_cases c1 : T v b = d.from_ <;> simp [c1, c2, Sh.cont]
  ·cases hA : arrD p.decls (T v a) with
   | none => exact .inl rfl
   | some d =>
    obtain ⟨m1, _⟩ := arrD_mem hA
    simp only [Option.elim_some]
    split
    ·exact .inr (S.arrs d m1).2
    ·exact .inl rfl
 ·have hl' : ¬ ((e.kids.length : Int) = 2) := by omega
  refine ⟨-1, ?_, ?_, .inl rfl⟩
  ·unfold spec_typeOf_B
   simp only [h, Int.reduceEq, decide_true, decide_false, Bool.false_eq_true, if_true, if_false, Option.bind_some, len_def, hl']
   by_cases c2 : e.num = 0 <;> simp [c2, Sh.cont]
  ·rw [typeOf_kids H V hN (by omega) (by omega) (by omega) (by omega)]
   unfold impl_signatures_simpleType
   simp only [h, Int.reduceEq, decide_true, decide_false, Bool.false_eq_true, if_true, if_false, Option.bind_some, len_def, List.length_map, hl']
   simp [Sh.cont]
end
end RC



namespace RC
open Go
def fld (D : List RDecl) (c : Int) : List Int := (conF D 0 c.toNat).elim [] fun x => x.2.fields
theorem consL_mem {D : List RDecl} {t c : Int} (h : c ∈ consL D t) : ∃ k : Nat, c = (k : Int) ∧ k < nc D := by
 unfold consL at h
 split at h
 ·rename_i h1
  obtain ⟨a, ha⟩ : ∃ a : Nat, t = (a : Int) + 1 := ⟨(t - 1).toNat, by omega⟩
  subst ha
  obtain ⟨d, hd, _⟩ := at_lt (l := D) (i := a) (by omega)
  rw [show (((a : Int) + 1) - 1).toNat = a by omega, hd] at h
  simp only [Option.elim_some, List.mem_map, List.mem_range] at h
  obtain ⟨i, hi, rfl⟩ := h
  have hs := nc_split D a
  rw [nc_drop hd] at hs
  exact ⟨nc (D.take a) + i, by omega, by omega⟩
 ·cases h
theorem consL_len {D : List RDecl} (h : ∀ d ∈ D, d.cons.length ≤ 3) (t : Int) : (consL D t).length ≤ 3 := by
 unfold consL
 split
 ·rename_i h1
  obtain ⟨a, ha⟩ : ∃ a : Nat, t = (a : Int) + 1 := ⟨(t - 1).toNat, by omega⟩
  subst ha
  obtain ⟨d, hd, hm⟩ := at_lt (l := D) (i := a) (by omega)
  rw [show (((a : Int) + 1) - 1).toNat = a by omega, hd]
  simp only [Option.elim_some, List.length_map, List.length_range]
  exact h d hm
 ·simp
theorem fld_ok {D : List RDecl} {F : List RFunc} (S : SigOK D F) {t c : Int} (h : c ∈ consL D t) {N : Nat} (hN : 2000000 ≤ N) : spec_conFields N D c = some (fld D c) ∧ impl_fieldsOf N D c = some (fld D c) ∧ (fld D c).length ≤ 3 ∧ ∀ x ∈ fld D c, tyB D x = true := by
 obtain ⟨k, rfl, hk⟩ := consL_mem h
 have hD := S.dlen
 have hn := S.nc
 obtain ⟨t, x, e1, e2⟩ := spec_conFields_eq (D := D) (by omega) (by omega) hk hN
 obtain ⟨t', x', e1', e3⟩ := impl_fieldsOf_eq (D := D) (by omega) (by omega) hk hN
 rw [e1] at e1'
 cases e1'
 obtain ⟨_, _, d, g3, g4⟩ := conF_mem e1
 have hf : fld D (k : Int) = x.fields := by unfold fld; rw [Int.toNat_natCast, e1]; rfl
 rw [hf]
 exact ⟨e2, e3, S.flds d g3 x g4⟩
section
variable {p : RProgram} {R1 : RProgram → List Int → RExpr → Option Int} {R2 : List Int → RSignatures → RExpr → Option Int} {T : List Int → RExpr → Int} {e : RExpr} {v : List Int} {N : Nat}
theorem fields_loop (S : SigOK p.decls p.funcs) (hN : 2000000 ≤ N) {C : List Int} (hC : C.length ≤ 3) (hc : ∀ c ∈ C, impl_fieldsOf N p.decls c = some (fld p.decls c)) : impl_signatures_typeOf_B_L1 N (sgP p) C N 0 (List.replicate C.length []) = some (C.map (fld p.decls)) := by
 have key : ∀ {M i : Nat}, i ≤ C.length → C.length - i < M → ∀ m : List (List Int), m.length = C.length → m.take i = (C.map (fld p.decls)).take i → impl_signatures_typeOf_B_L1 N (sgP p) C M i m = some (C.map (fld p.decls)) := by
  intro M i hi hM
  refine loop_ind C.length (fun M i => ∀ m : List (List Int), m.length = C.length → m.take i = (C.map (fld p.decls)).take i → impl_signatures_typeOf_B_L1 N (sgP p) C M i m = some (C.map (fld p.decls))) ?_ ?_ hi hM
  ·intro n m a b
   rw [impl_signatures_typeOf_B_L1, if_neg (by simp [len_def])]
   rw [List.take_of_length_le (by omega), List.take_of_length_le (by simp)] at b
   rw [b]
  ·intro n i hi ih m a b
   obtain ⟨x, hx, hxm⟩ := at_lt hi
   obtain ⟨y, hy, _⟩ := at_lt (l := m) (i := i) (by omega)
   have hx2 : (C.map (fld p.decls))[i]? = some (fld p.decls x) := by rw [List.getElem?_map, hx]; rfl
   have hi' : (m.set i (fld p.decls x))[i]? = some (fld p.decls x) := by rw [List.getElem?_set_self (by omega)]
   rw [impl_signatures_typeOf_B_L1, if_pos (by simp [len_def]; omega), get_lt hx]
   simp only [Option.bind_some]
   rw [show (sgP p).decls = p.decls from rfl, hc x hxm, get_lt hy]
   simp only [Option.bind_some]
   rw [put_nat, w_id (by omega) (by omega), show ((i : Int) + 1) = ((i + 1 : Nat) : Int) by omega]
   exact ih _ (by simp [a]) (by rw [take_snoc hi', take_snoc hx2, ← b, List.take_set_of_le (Nat.le_refl _)])
 have := key (Nat.zero_le _) (by omega : C.length - 0 < N) (List.replicate C.length []) (by simp) rfl
 simpa using this
theorem both_match (H : TOK p (sgP p) R1 R2 T (en e)) (V : VOK p e v) (S : SigOK p.decls p.funcs) (hN : 2000000 ≤ N) (h : e.op = 8) : Both p R1 R2 N v e := by
 have hk := V.klen
 have hD := S.dlen
 have hn := S.nc
 have hv : v.length ≤ 1000 := by have := V.len; omega
 have hCl := consL_len S.clen e.num
 unfold Both spec_typeOf_B impl_signatures_typeOf_B spec_matchType
 simp only [h, Int.reduceEq, decide_true, decide_false, Bool.false_eq_true, if_true, if_false, Option.bind_some]
 rw [show (sgP p).decls = p.decls from rfl, spec_consOf_eq (by omega) (by omega) hN, impl_consOf_eq (by omega) (by omega) hN]
 simp only [Option.bind_some]
 generalize hCe : consL p.decls e.num = C at hCl
 have hCm : ∀ c ∈ C, spec_conFields N p.decls c = some (fld p.decls c) ∧ impl_fieldsOf N p.decls c = some (fld p.decls c) ∧ (fld p.decls c).length ≤ 3 ∧ ∀ x ∈ fld p.decls c, tyB p.decls x = true := fun c hc => fld_ok S (hCe ▸ hc) hN
 rw [len_def C, len_def e.kids, w_id (n := 1 + (C.length : Int)) (by omega) (by omega)]
 by_cases h0 : C.length = 0
 ·exact ⟨-1, by simp [h0, Sh.cont], by simp [h0], .inl rfl⟩
 ·have h0' : ¬ ((C.length : Int) = 0) := by omega
  have hne : ¬ C = [] := fun q => h0 (by rw [q]; rfl)
  by_cases h1 : e.kids.length = 1 + C.length
  ·have h1' : ((e.kids.length : Int) = 1 + (C.length : Int)) := by omega
   obtain ⟨a, r, hks⟩ : ∃ a r, e.kids = a :: r := by
    cases hq : e.kids with
    | nil => rw [hq] at h1; simp at h1; omega
    | cons a r => exact ⟨a, r, rfl⟩
   have hrl : r.length = C.length := by rw [hks] at h1; simp at h1; omega
   have hma : a ∈ e.kids := by rw [hks]; simp
   have hmr : ∀ k ∈ r, k ∈ e.kids := fun k hk => by rw [hks]; simp [hk]
   obtain ⟨a1, a2, a3⟩ := H v a (V.inn.kids a hma) (en_kid hma) (V.kid hma) V.tys
   have g0 : Sh.get e.kids 0 = some a := by rw [hks]; rfl
   have gi : ∀ (i : Nat) k, r[i]? = some k → Sh.get e.kids ((1 + i : Nat) : Int) = some k := fun i k hk => by
    rw [get_nat, hks, Nat.add_comm]; simpa using hk
   have g3 : Sh.sl e.kids 1 (e.kids.length : Int) = some r := by
    unfold Sh.sl
    rw [if_pos ⟨by omega, by omega, by omega⟩, hks]; simp
   have mkC : Sh.mk ([] : List Int) (C.length : Int) 24 = some (List.replicate C.length []) := mk_ok [] C.length 24 (by omega) (by omega)
   have o := oneType_eq (ks := r) (ms := C.map (fld p.decls)) H V hN hmr (by omega) (by simp [hrl]) (by
    intro m hm
    obtain ⟨c, hc, rfl⟩ := List.mem_map.1 hm
    exact (hCm c hc).2.2)
   have F := fields_loop (p := p) S hN hCl fun c hc => (hCm c hc).2.1
   generalize hts : List.zipWith (fun m k => T (v ++ m) k) (C.map (fld p.decls)) r = ts at o
   have tsl : ts.length = C.length := by rw [← hts]; simp [hrl]
   have tsi : ∀ (i : Nat), i < C.length → ∃ c k, C[i]? = some c ∧ r[i]? = some k ∧ ts[i]? = some (T (v ++ fld p.decls c) k) ∧ spec_conFields N p.decls c = some (fld p.decls c) ∧ spec_extend v (fld p.decls c) = some (v ++ fld p.decls c) ∧ R1 p (v ++ fld p.decls c) k = some (T (v ++ fld p.decls c) k) ∧ (T (v ++ fld p.decls c) k = -1 ∨ tyB p.decls (T (v ++ fld p.decls c) k) = true) := fun i hi => by
    obtain ⟨c, hc, hcm⟩ := at_lt (l := C) (i := i) hi
    obtain ⟨k, hk2, hkm⟩ := at_lt (l := r) (i := i) (by omega)
    obtain ⟨q1, q2, q3, q4⟩ := hCm c hcm
    obtain ⟨z1, z2, z3⟩ := H (v ++ fld p.decls c) k (V.inn.kids k (hmr k hkm)) (en_kid (hmr k hkm)) (V.more (hmr k hkm) q3) (V.tys2 q4)
    refine ⟨c, k, hc, hk2, ?_, q1, extend_eq hv (by omega), z1, z3⟩
    rw [← hts, List.getElem?_zipWith, List.getElem?_map, hc, hk2]; rfl
   have L : ∀ (t : Int) {M i : Nat}, i ≤ C.length → C.length - i < M → spec_matchType_L1 N p v e t C R1 M i = some (if (ts.drop i).all (fun x => decide (x = t)) = true then .inr () else .inl (-1)) := by
    intro t M i hi hM
    refine loop_ind C.length (fun M i => spec_matchType_L1 N p v e t C R1 M i = some (if (ts.drop i).all (fun x => decide (x = t)) = true then .inr () else .inl (-1))) ?_ ?_ hi hM
    ·intro n
     rw [spec_matchType_L1, if_neg (by simp [len_def]), List.drop_of_length_le (by omega)]; rfl
    ·intro n i hi ih
     obtain ⟨c, k, q1, q2, q3, q4, q5, q6, q7⟩ := tsi i hi
     rw [spec_matchType_L1, if_pos (by simp [len_def]; omega), get_lt q1]
     simp only [Option.bind_some]
     rw [q4]
     simp only [Option.bind_some]
     rw [q5, w_id (n := (1 : Int) + (i : Int)) (by omega) (by omega), show ((1 : Int) + (i : Int)) = ((1 + i : Nat) : Int) by omega, gi i k q2]
     simp only [Option.bind_some]
     rw [q6, w_id (by omega) (by omega), show ((i : Int) + 1) = ((i + 1 : Nat) : Int) by omega, drop_cons q3, List.all_cons]
     simp only [Option.bind_some]
     by_cases z : T (v ++ fld p.decls c) k = t
     ·simp only [z, decide_true, Bool.not_true, Bool.false_eq_true, if_false, Bool.true_and]
      exact ih
     ·simp [z]
   rw [g0, g3, mkC]
   simp only [Option.bind_some]
   rw [a1, a2]
   simp only [Option.bind_some]
   rw [F]
   simp only [Option.bind_some]
   rw [o]
   obtain ⟨c, k, q1, q2, q3, q4, q5, q6, q7⟩ := tsi 0 (by omega)
   have g1 := gi 0 k q2
   have c0 : Sh.get C 0 = some c := by rw [show (0 : Int) = ((0 : Nat) : Int) from rfl, get_lt q1]
   rw [show ((1 + 0 : Nat) : Int) = 1 from rfl] at g1
   rw [c0]
   simp only [Option.bind_some]
   rw [q4]
   simp only [Option.bind_some]
   rw [q5, g1]
   simp only [Option.bind_some]
   rw [q6]
   simp only [Option.bind_some]
   have L1 := L (T (v ++ fld p.decls c) k) (M := N) (i := 1) (by omega) (by omega)
   rw [show ((1 : Nat) : Int) = 1 from rfl] at L1
   rw [L1]
   have hts2 : ts = T (v ++ fld p.decls c) k :: ts.drop 1 := by
    have := drop_cons q3
    simpa using this
   by_cases z : T v a = e.num
   ·by_cases y : (ts.drop 1).all (fun x => decide (x = T (v ++ fld p.decls c) k)) = true
    ·have ho : oneM ts = T (v ++ fld p.decls c) k := by rw [hts2]; unfold oneM; dsimp only; rw [if_pos y]
     refine ⟨T (v ++ fld p.decls c) k, ?_, ?_, q7⟩
     ·rw [if_pos y]
      simp [h0', hne, h1', z, Sh.cont]
     ·rw [ho]
      simp [h0', hne, h1', z]
    ·have ho : oneM ts = -1 := by rw [hts2]; unfold oneM; dsimp only; rw [if_neg y]
     refine ⟨-1, ?_, ?_, .inl rfl⟩
     ·rw [if_neg y]
      simp [h0', hne, h1', z, Sh.cont]
     ·rw [ho]
      simp [h0', hne, h1', z]
   ·exact ⟨-1, by simp [h0', hne, h1', z, Sh.cont], by simp [h0', hne, h1', z], .inl rfl⟩
  ·have h1' : ¬ ((e.kids.length : Int) = 1 + (C.length : Int)) := by omega
   exact ⟨-1, by simp [h0', hne, h1', Sh.cont], by simp [h0', hne, h1'], .inl rfl⟩
theorem both_step (H : TOK p (sgP p) R1 R2 T (en e)) (V : VOK p e v) (S : SigOK p.decls p.funcs) (hN : 2000000 ≤ N) : Both p R1 R2 N v e := by
 by_cases h0 : e.op = 0
 ·exact both_int H V hN h0
 by_cases h1 : e.op = 1 ∨ e.op = 2 ∨ e.op = 3 ∨ e.op = 4
 ·exact both_arith H V hN h1
 by_cases h5 : e.op = 5
 ·exact both_print H V hN h5
 by_cases h6 : e.op = 6
 ·exact both_con H V S hN h6
 by_cases h7 : e.op = 7
 ·exact both_if H V hN h7
 by_cases h8 : e.op = 8
 ·exact both_match H V S hN h8
 by_cases h9 : e.op = 9
 ·exact both_call H V S hN h9
 by_cases h10 : e.op = 10
 ·exact both_close H V S hN h10
 by_cases h11 : e.op = 11
 ·exact both_apply H V S hN h11
 by_cases h12 : e.op = 12
 ·exact both_var V h12
 by_cases h13 : e.op = 13
 ·exact both_let H V h13
 exact both_other H V hN (by omega)
end
theorem typeOf_F {p : RProgram} (S : SigOK p.decls p.funcs) {N : Nat} (hN : 2000000 ≤ N) : ∀ (n : Nat), ∃ T : List Int → RExpr → Int, ∀ (v : List Int) (e : RExpr), RExprIn e → en e < n → v.length + 3 * en e ≤ 1000 → (∀ x ∈ v, tyB p.decls x = true) →
  ∀ n1 n2, n ≤ n1 → n ≤ n2 → spec_typeOf_F N n1 p v e = some (T v e) ∧ impl_signatures_typeOf_F N n2 v (sgP p) e = some (T v e) ∧ (T v e = -1 ∨ tyB p.decls (T v e) = true) := by
 intro n
 induction n with
 | zero => exact ⟨fun _ _ => 0, fun v e _ h => by omega⟩
 | succ n ih =>
  obtain ⟨T, hT⟩ := ih
  refine ⟨fun v e => (spec_typeOf_F N (n + 1) p v e).getD 0, fun v e hi hn hl ht n1 n2 h1 h2 => ?_⟩
  have step : ∀ n1 n2, n ≤ n1 → n ≤ n2 → Both p (spec_typeOf_F N n1) (impl_signatures_typeOf_F N n2) N v e := fun n1 n2 h1 h2 =>
   both_step (T := T) (fun v e a b c d => hT v e a (by omega) c d n1 n2 h1 h2) ⟨hl, ht, by have := hl; omega, hi⟩ S hN
  obtain ⟨m1, rfl⟩ : ∃ m, n1 = m + 1 := ⟨n1 - 1, by omega⟩
  obtain ⟨m2, rfl⟩ : ∃ m, n2 = m + 1 := ⟨n2 - 1, by omega⟩
  obtain ⟨t, q1, q2, q3⟩ := step n n (Nat.le_refl _) (Nat.le_refl _)
  obtain ⟨t', r1, r2, _⟩ := step n m2 (Nat.le_refl _) (by omega)
  obtain ⟨t'', s1, s2, _⟩ := step m1 n (by omega) (Nat.le_refl _)
  have e1 : t' = t := by rw [q1] at r1; cases r1; rfl
  have e2 : t'' = t := by rw [q2] at s2; cases s2; rfl
  subst e1; subst e2
  have e3 : (spec_typeOf_F N (n + 1) p v e).getD 0 = t'' := by rw [spec_typeOf_F, q1]; rfl
  dsimp only
  rw [e3]
  exact ⟨by rw [spec_typeOf_F]; exact s1, by rw [impl_signatures_typeOf_F]; exact r2, q3⟩
end RC



namespace RC
open Go
structure PSmall (p : RProgram) : Prop where
 inn : RProgramIn p
 size : pgz p ≤ 1048576
theorem PSmall.decls {p : RProgram} (S : PSmall p) : DSmall p.decls := by
 have h := S.size
 unfold pgz at h
 have hd : ∀ d ∈ p.decls, dz d ≤ 1048576 := fun d hd => by have := mem_sum dz hd; omega
 refine ⟨by omega, fun d hm => ?_, fun d hm c hc => ?_⟩
 ·have := hd d hm; unfold dz at this; omega
 ·have := hd d hm; unfold dz at this
  have := mem_sum cz hc
  show cz c ≤ _
  omega
theorem PSmall.flen {p : RProgram} (S : PSmall p) : p.funcs.length ≤ 1048576 := by have h := S.size; unfold pgz at h; omega
theorem PSmall.fz {p : RProgram} (S : PSmall p) {f : RFunc} (hf : f ∈ p.funcs) : f.params.length ≤ 1048576 ∧ enl f.body.kids ≤ 1048576 := by
 have h := S.size
 unfold pgz at h
 have h2 := mem_sum fnz hf
 have h3 : fnz f = f.params.length + enl f.body.kids := rfl
 omega
theorem PSmall.fin {p : RProgram} (S : PSmall p) {f : RFunc} (hf : f ∈ p.funcs) : RFuncIn f := S.inn.funcs.1 f hf
def sigsP (p : RProgram) : Bool := sigsB p.decls (p.funcs.map fun f => (f.params, f.result))
theorem spec_sigs {p : RProgram} (S : PSmall p) {N : Nat} (hN : 2000000 ≤ N) : spec_validSigs N p = some (sigsP p) := spec_validSigs_eq S.decls S.flen (fun f hf => (S.fz hf).1) hN
theorem sigs_list {p : RProgram} (hl : p.funcs.length ≤ 1048576) {N : Nat} (hN : 2000000 ≤ N) : impl_ValidSigs_L1 p N 0 [] = some (sgP p).funcs := by
 have key : ∀ {N i : Nat}, i ≤ p.funcs.length → p.funcs.length - i < N → impl_ValidSigs_L1 p N i ((sgP p).funcs.take i) = some (sgP p).funcs := by
  intro N i hi hN
  refine loop_ind p.funcs.length (fun N i => impl_ValidSigs_L1 p N i ((sgP p).funcs.take i) = some (sgP p).funcs) ?_ ?_ hi hN
  ·intro n; rw [impl_ValidSigs_L1, if_neg (by simp [len_def]), List.take_of_length_le (by rw [sg_len]; omega)]
  ·intro n i hi ih
   obtain ⟨f, hf, _⟩ := at_lt hi
   have hf2 : (sgP p).funcs[i]? = some ⟨f.params, [], f.result⟩ := by
    show (p.funcs.map _)[i]? = _
    rw [List.getElem?_map, hf]; rfl
   rw [impl_ValidSigs_L1, if_pos (by simp [len_def]; omega), get_lt hf]
   simp only [Option.bind_some]
   rw [app_ok _ _ _ (by simp; omega) (by simp; omega), w_id (by omega) (by omega), show ((i : Int) + 1) = ((i + 1 : Nat) : Int) by omega]
   simp only [Option.bind_some]
   rw [← ih, take_snoc hf2]
 have := key (Nat.zero_le _) (by omega : p.funcs.length - 0 < N)
 simpa using this
theorem sigsOf_eq {p : RProgram} (hl : p.funcs.length ≤ 1048576) {N : Nat} (hN : 2000000 ≤ N) : impl_sigsOf N p = some (sgP p) := by
 have key : ∀ {N i : Nat}, i ≤ p.funcs.length → p.funcs.length - i < N → impl_sigsOf_L1 p N i ((sgP p).funcs.take i) = some (sgP p).funcs := by
  intro N i hi hN
  refine loop_ind p.funcs.length (fun N i => impl_sigsOf_L1 p N i ((sgP p).funcs.take i) = some (sgP p).funcs) ?_ ?_ hi hN
  ·intro n; rw [impl_sigsOf_L1, if_neg (by simp [len_def]), List.take_of_length_le (by rw [sg_len]; omega)]
  ·intro n i hi ih
   obtain ⟨f, hf, _⟩ := at_lt hi
   have hf2 : (sgP p).funcs[i]? = some ⟨f.params, [], f.result⟩ := by
    show (p.funcs.map _)[i]? = _
    rw [List.getElem?_map, hf]; rfl
   rw [impl_sigsOf_L1, if_pos (by simp [len_def]; omega), get_lt hf]
   simp only [Option.bind_some]
   rw [app_ok _ _ _ (by simp; omega) (by simp; omega), w_id (by omega) (by omega), show ((i : Int) + 1) = ((i + 1 : Nat) : Int) by omega]
   simp only [Option.bind_some]
   rw [← ih, take_snoc hf2]
 have := key (Nat.zero_le _) (by omega : p.funcs.length - 0 < N)
 rw [List.take_zero, show ((0 : Nat) : Int) = 0 from rfl] at this
 unfold impl_sigsOf
 rw [this]; rfl
theorem impl_sigs {p : RProgram} (S : PSmall p) {N : Nat} (hN : 2000000 ≤ N) : impl_ValidSigs N p = some (sigsP p) := by
 have hl := S.flen
 unfold impl_ValidSigs sigsP
 by_cases h4 : p.funcs.length ≤ 4
 ·rw [if_neg (by rw [decide_eq_true_eq, len_def]; omega), sigs_list hl hN]
  simp only [Option.bind_some]
  rw [impl_validSigs_eq S.decls (by rw [sg_len]; exact hl) (fun f hf => by obtain ⟨q, hq, rfl⟩ := List.mem_map.1 (show f ∈ p.funcs.map _ from hf); exact ⟨(S.fz hq).1, by simp⟩) hN]
  have e1 : ((sgP p).funcs.map fun f => (f.params, f.result)) = p.funcs.map fun f => (f.params, f.result) := by
   show (p.funcs.map _).map _ = _
   rw [List.map_map]; rfl
  have e2 : ((sgP p).funcs.all fun f => allAt (lentB f.params f.lent) 0 f.lent) = true := by
   rw [List.all_eq_true]
   intro f hf
   obtain ⟨q, hq, rfl⟩ := List.mem_map.1 (show f ∈ p.funcs.map _ from hf)
   rfl
  rw [e1, e2]; simp
 ·rw [if_pos (by rw [decide_eq_true_eq, len_def]; omega)]
  have : sigsB p.decls (p.funcs.map fun f => (f.params, f.result)) = false := by
   unfold sigsB
   simp [h4]
  rw [this]
def bodyB (p : RProgram) (T : List Int → RExpr → Int) (f : RFunc) : Bool := decide (en f.body ≤ 30) && decide (T f.params f.body = f.result)
theorem ValidProgram_both {p : RProgram} (S : PSmall p) {N : Nat} (hN : 2000000 ≤ N) : ∃ b, spec_validProgram N p = some b ∧ impl_ValidProgram N p = some b ∧ (b = true → SigOK p.decls p.funcs ∧ ∀ f ∈ p.funcs, en f.body ≤ 30) := by
 unfold spec_validProgram impl_ValidProgram
 rw [spec_sigs S hN, impl_sigs S hN]
 simp only [Option.bind_some]
 cases hs : sigsP p with
 | false => exact ⟨false, rfl, rfl, fun h => nomatch h⟩
 | true =>
  have SO := SigOK.of hs
  have hl := S.flen
  obtain ⟨T, hT⟩ := typeOf_F SO hN 31
  have hty : ∀ f ∈ p.funcs, en f.body ≤ 30 → spec_typeOf N p f.params f.body = some (T f.params f.body) ∧ impl_signatures_typeOf N f.params (sgP p) f.body = some (T f.params f.body) ∧ (T f.params f.body = -1 ∨ tyB p.decls (T f.params f.body) = true) := fun f hf he => by
   obtain ⟨q1, q2, q3⟩ := SO.funs f hf
   exact hT f.params f.body (S.fin hf).body (by omega) (by omega) q2 N N (by omega) (by omega)
  have hcl : ∀ f ∈ p.funcs, slices_Clone_int_int f.params = some f.params := fun f hf => by
   obtain ⟨q1, q2, q3⟩ := SO.funs f hf
   unfold slices_Clone_int_int
   rw [app_ok [] f.params 8 (by simp; omega) (by simp; omega)]; rfl
  have L1 := all_loop (l := p.funcs) (spec_validProgram_L1 N p) (fun _ f => bodyB p T f) (fun n => by rw [spec_validProgram_L1, if_neg (by simp [len_def])]) (fun n i f hi => by
   have hil := (List.getElem?_eq_some_iff.1 hi).1
   have hf := List.mem_of_getElem? hi
   rw [spec_validProgram_L1, if_pos (by simp [len_def]; omega), get_lt hi]
   simp only [Option.bind_some]
   rw [spec_nodesOf_eq (S.fz hf).2 hN, w_id (by omega) (by omega), show ((i : Int) + 1) = ((i + 1 : Nat) : Int) by omega]
   simp only [Option.bind_some]
   unfold bodyB
   by_cases he : en f.body ≤ 30
   ·rw [if_pos he, if_neg (by simp), (hty f hf he).1]
    by_cases hr : T f.params f.body = f.result <;> simp [he, hr]
   ·rw [if_neg he]
    simp [he]) (by omega : p.funcs.length < N)
  have L2 := all_loop (l := p.funcs) (impl_ValidProgram_L1 N p) (fun _ f => bodyB p T f) (fun n => by rw [impl_ValidProgram_L1, if_neg (by simp [len_def])]) (fun n i f hi => by
   have hil := (List.getElem?_eq_some_iff.1 hi).1
   have hf := List.mem_of_getElem? hi
   obtain ⟨q1, q2, q3⟩ := SO.funs f hf
   have q4 : f.params.all (tyB p.decls) = true := List.all_eq_true.2 q2
   rw [impl_ValidProgram_L1, if_pos (by simp [len_def]; omega), get_lt hi]
   simp only [Option.bind_some]
   unfold impl_TypeOf
   rw [impl_sigs S hN, hs, impl_NodesOf_eq (S.fz hf).2 hN, impl_allTypes_eq (by omega) (by omega), q4, sigsOf_eq hl hN, hcl f hf, w_id (by omega) (by omega), show ((i : Int) + 1) = ((i + 1 : Nat) : Int) by omega]
   simp only [Option.bind_some]
   unfold bodyB
   by_cases he : en f.body ≤ 30
   ·rw [if_pos he, (hty f hf he).2.1]
    have he0 : ¬ ((en f.body : Int) < 0) := by omega
    by_cases hr : T f.params f.body = f.result <;> simp [he, hr, he0]
   ·rw [if_neg he]
    have hr : ¬ ((-1 : Int) = f.result) := fun q => by have := (tyB_nn q3).1; omega
    simp [he, hr]) (by omega : p.funcs.length < N)
  rw [allAt_all] at L1 L2
  refine ⟨p.funcs.all (bodyB p T), ?_, ?_, fun h => ⟨SO, fun f hf => ?_⟩⟩
  ·simp only [Bool.not_true, Bool.false_eq_true, if_false]
   rw [L1, cont_all]
   cases p.funcs.all (bodyB p T) <;> rfl
  ·simp only [Bool.not_true, Bool.false_eq_true, if_false]
   rw [L2, cont_all]
   cases p.funcs.all (bodyB p T) <;> rfl
  ·have := List.all_eq_true.1 h f hf
   unfold bodyB at this
   simp only [Bool.and_eq_true, decide_eq_true_eq] at this
   exact this.1
end RC



namespace RC
open Go
end RC



namespace RC
open Go
end RC



namespace RC
open Go
end RC



namespace RC
open Go
def ctg (o : Int) : Bool := decide (14 ≤ o) && decide (o ≤ 17)
mutual
def us (v : Int) : Step → Nat | .mk o _ _ a k => if ctg o then 0 else a.countP (fun x => decide (x = v)) + uk v k
def uk (v : Int) : List (BlockOf Step) → Nat | [] => 0 | b :: k => ub v b + uk v k
def ub (v : Int) : BlockOf Step → Nat | ⟨ss, r⟩ => (if r = v then 1 else 0) + ul v ss
def ul (v : Int) : List Step → Nat | [] => 0 | s :: l => us v s + ul v l
end
end RC



namespace RC
open Go
section
variable {D : List RDecl} {G : List RSignature} {ks : List Int} {op num : Int} {N : Nat}
end
end RC



namespace RC
open Go
section
variable {n : RNormal} {R1 : RNormal → List Int → Block → Option Int} {R2 : RSignatures → List Int → Block → Option Int} {T : List Int → Block → Int} {s : Step} {v : List Int} {N : Nat}
end
end RC



namespace RC
open Go
section
variable {n : RNormal} {R1 : RNormal → List Int → Block → Option Int} {R2 : RSignatures → List Int → Block → Option Int} {T : List Int → Block → Int} {s : Step} {v : List Int} {N : Nat}
end
end RC



namespace RC
open Go
section
variable {n : RNormal} {R1 : RNormal → List Int → Block → Option Int} {R2 : RSignatures → List Int → Block → Option Int} {T : List Int → Block → Int} {s : Step} {v : List Int} {N : Nat} {b : Bool}
end
end RC



namespace RC
open Go
section
variable {n : RNormal} {R1 : RNormal → List Int → Block → Option Int} {R2 : RSignatures → List Int → Block → Option Int} {T : List Int → Block → Int} {s : Step} {v : List Int} {N : Nat} {b : Bool}
end
end RC



namespace RC
open Go
section
variable {n : RNormal} {R1 : RNormal → List Int → Block → Option Int} {R2 : RSignatures → List Int → Block → Option Int} {T : List Int → Block → Int} {s : Step} {v : List Int} {N : Nat} {b : Bool}
end
end RC



namespace RC
open Go
section
variable {n : RNormal} {R1 : RNormal → List Int → Block → Option Int} {R2 : RSignatures → List Int → Block → Option Int} {T : List Int → Block → Int} {b : Block} {v : List Int} {N : Nat}
end
end RC



namespace RC
open Go
end RC



namespace RC
open Go
end RC



namespace RC
open Go
mutual
def ms : Step → Nat | .mk _ _ _ a k => 3 + a.length + mks k
def mks : List (BlockOf Step) → Nat | [] => 0 | b :: k => mb b + mks k
def mb : BlockOf Step → Nat | ⟨ss, _⟩ => mls ss + 1
def mls : List Step → Nat | [] => 0 | s :: l => ms s + mls l
end
end RC


namespace RC
end RC


namespace RC
end RC


namespace RC
end RC



namespace RC
open Go
end RC



namespace RC
open Go
end RC


namespace RC
end RC

