import Derived.Test.YtpahalfiiahddaaGPlainAToUGDefs

namespace RC
open Go
def ins : List Int → Int → List Int
 | [], x => [x]
 | a :: r, x => if x ≤ a then (if x < a then x :: a :: r else a :: r) else a :: ins r x
def insD : List Int → Int → Bool
 | [], _ => false
 | a :: r, x => if x ≤ a then true else insD r x
def insA (l : List Int) (x : Int) : List Int := if insD l x then ins l x else l
theorem ins_A : ∀ (l : List Int) (x : Int), ins l x = if insD l x then insA l x else insA l x ++ [x]
 | [], x => by simp [ins, insD, insA]
 | a :: r, x => by
  have ih := ins_A r x
  simp only [insA, insD, ins] at ih ⊢
  by_cases h : x ≤ a
  ·simp [h]
  ·simp only [h, if_false] at ih ⊢
   by_cases hd : insD r x = true
   ·simp [hd]
   ·simp only [hd, if_false] at ih ⊢
    simp [ih]
theorem insert_L1_done {l : List Int} {x : Int} (hl : l.length ≤ 1048576) {N i : Nat} (hi : i ≤ l.length) (hN : l.length - i < N) : ∀ acc : List Int, acc.length ≤ 1048576 + i → spec_insert_L1 l x N true (i : Int) acc = some (true, acc ++ l.drop i) := by
 refine loop_ind l.length (fun N i => ∀ acc : List Int, acc.length ≤ 1048576 + i → spec_insert_L1 l x N true (i : Int) acc = some (true, acc ++ l.drop i)) ?_ ?_ hi hN
 ·intro n acc _
  rw [spec_insert_L1, if_neg (by simp [len_def])]; simp
 ·intro n i hi ih acc ha
  obtain ⟨y, hy, _⟩ := at_lt hi
  rw [spec_insert_L1, if_pos (by simp [len_def]; omega), get_lt hy]
  simp only [Bool.not_true, Bool.false_eq_true, if_false, Option.bind_some]
  rw [app_ok _ _ 8 (by simp; omega) (by simp; omega)]
  simp only [Option.bind_some]
  rw [w_id (by omega) (by omega), show ((i : Int) + 1) = ((i + 1 : Nat) : Int) by omega, ih _ (by simp; omega), drop_cons hy]
  simp
theorem insert_L1_eq {l : List Int} {x : Int} (hl : l.length ≤ 1048576) {N i : Nat} (hi : i ≤ l.length) (hN : l.length - i < N) : ∀ acc : List Int, acc.length ≤ i → spec_insert_L1 l x N false (i : Int) acc = some (insD (l.drop i) x, acc ++ insA (l.drop i) x) := by
 refine loop_ind l.length (fun N i => l.length - i < N → ∀ acc : List Int, acc.length ≤ i → spec_insert_L1 l x N false (i : Int) acc = some (insD (l.drop i) x, acc ++ insA (l.drop i) x)) ?_ ?_ hi hN hN
 ·intro n _ acc _
  rw [spec_insert_L1, if_neg (by simp [len_def])]; simp [insD, insA]
 ·intro n i hi ih hf acc ha
  obtain ⟨y, hy, _⟩ := at_lt hi
  have ih := ih (by omega)
  rw [spec_insert_L1, if_pos (by simp [len_def]; omega), get_lt hy]
  simp only [Bool.not_false, if_true, Option.bind_some]
  rw [w_id (n := (i : Int) + 1) (by omega) (by omega), show ((i : Int) + 1) = ((i + 1 : Nat) : Int) by omega, drop_cons hy]
  have done := insert_L1_done (l := l) (x := x) hl (N := n) (i := i + 1) (by omega) (by omega)
  by_cases h : x ≤ y
  ·simp only [h, decide_true, if_true]
   by_cases h2 : x < y
   ·simp only [h2, decide_true, if_true]
    rw [app_ok acc [x] 8 (by simp; omega) (by simp; omega)]
    simp only [Option.bind_some]
    rw [app_ok _ _ 8 (by simp; omega) (by simp; omega)]
    simp only [Option.bind_some]
    rw [done _ (by simp; omega)]
    simp [insD, insA, ins, h, h2]
   ·simp only [h2, decide_false, Bool.false_eq_true, if_false, Option.bind_some]
    rw [app_ok _ _ 8 (by simp; omega) (by simp; omega)]
    simp only [Option.bind_some]
    rw [done _ (by simp; omega)]
    simp [insD, insA, ins, h, h2]
  ·simp only [h, decide_false, Bool.false_eq_true, if_false, Option.bind_some]
   rw [app_ok _ _ 8 (by simp; omega) (by simp; omega)]
   simp only [Option.bind_some]
   rw [ih _ (by simp; omega)]
   simp only [insD, insA, ins, h, if_false, List.append_assoc, List.singleton_append]
   cases insD (l.drop (i + 1)) x <;> simp
theorem spec_insert_eq {l : List Int} {x : Int} (hl : l.length ≤ 1048576) {N : Nat} (hN : 2000000 ≤ N) : spec_insert N l x = some (ins l x) := by
 unfold spec_insert
 have := insert_L1_eq (l := l) (x := x) hl (Nat.zero_le _) (by omega : l.length - 0 < N) [] (by simp)
 rw [show ((0 : Nat) : Int) = 0 from rfl, List.drop_zero] at this
 rw [this]
 simp only [Option.bind_some, List.nil_append]
 rw [ins_A]
 cases hd : insD l x with
 | true => simp
 | false =>
  simp only [Bool.not_false, if_true, Bool.false_eq_true, if_false]
  have e : insA l x = l := by simp [insA, hd]
  rw [e, app_ok _ _ 8 (by simp; omega) (by simp; omega)]
  rfl
mutual
def vs : Step → List Int | .mk o _ _ a k => if ctg o then [] else a ++ vsk k
def vsk : List (BlockOf Step) → List Int | [] => [] | b :: k => vsb b ++ vsk k
def vsb : BlockOf Step → List Int | ⟨ss, r⟩ => vsl ss ++ [r]
def vsl : List Step → List Int | [] => [] | s :: l => vs s ++ vsl l
end
end RC

