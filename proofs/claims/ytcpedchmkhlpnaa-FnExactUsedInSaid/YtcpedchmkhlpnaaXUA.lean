import Derived.Test.YtcpedchmkhlpnaaGPlainAToXNM
import Derived.Test.YtcpedchmkhlpnaaGEncCToUGDefs

namespace RC
open Go
def ins : List Int → Int → List Int
 | [], x => [x]
 | a :: r, x => if x ≤ a then (if x < a then x :: a :: r else a :: r) else a :: ins r x
theorem ins_len : ∀ (l : List Int) (x : Int), (ins l x).length ≤ l.length + 1
 | [], _ => by simp [ins]
 | a :: r, x => by
  have := ins_len r x
  simp only [ins]
  split
  ·split <;> simp
  ·simp only [List.length_cons]; omega
theorem ins_mem : ∀ (l : List Int) (x y : Int), y ∈ ins l x ↔ y = x ∨ y ∈ l
 | [], x, y => by simp [ins]
 | a :: r, x, y => by
  have ih := ins_mem r x y
  simp only [ins]
  split
  ·split
   ·simp
   ·have : x = a := by omega
    subst this; simp
  ·simp only [List.mem_cons, ih]
   constructor
   ·rintro (h | h | h) <;> simp [h]
   ·rintro (h | h | h) <;> simp [h]
theorem ins_asc : ∀ {l : List Int} (x : Int), l.Pairwise (· < ·) → (ins l x).Pairwise (· < ·)
 | [], x, _ => by simp [ins]
 | a :: r, x, h => by
  rw [List.pairwise_cons] at h
  simp only [ins]
  split
  ·split
   ·rename_i h1 h2
    rw [List.pairwise_cons, List.pairwise_cons]
    refine ⟨fun y hy => ?_, h⟩
    rcases List.mem_cons.1 hy with rfl | hy
    ·exact h2
    ·have := h.1 y hy; omega
   ·rw [List.pairwise_cons]; exact h
  ·rename_i h1
   rw [List.pairwise_cons]
   refine ⟨fun y hy => ?_, ins_asc x h.2⟩
   rcases (ins_mem r x y).1 hy with rfl | hy
   ·omega
   ·exact h.1 y hy
def insD : List Int → Int → Bool
 | [], _ => false
 | a :: r, x => if x ≤ a then true else insD r x
def insA (l : List Int) (x : Int) : List Int := if insD l x then ins l x else l
theorem ins_A : ∀ (l : List Int) (x : Int), ins l x = if insD l x then insA l x else insA l x ++ [x]
 | [], x => by simp [ins, insD, insA]
 | a :: r, x => by
  have ih := ins_A r x
  simp only [insA, insD, ins] at ih ⊢
  by_cases h : x ≤ a
  ·simp [h]
  ·simp only [h, if_false] at ih ⊢
   by_cases hd : insD r x = true
   ·simp [hd]
   ·simp only [hd, if_false] at ih ⊢
    simp [ih]
theorem insert_L1_done {l : List Int} {x : Int} (hl : l.length ≤ 1048576) {N i : Nat} (hi : i ≤ l.length) (hN : l.length - i < N) : ∀ acc : List Int, acc.length ≤ 1048576 + i → spec_insert_L1 l x N true (i : Int) acc = some (true, acc ++ l.drop i) := by
 refine loop_ind l.length (fun N i => ∀ acc : List Int, acc.length ≤ 1048576 + i → spec_insert_L1 l x N true (i : Int) acc = some (true, acc ++ l.drop i)) ?_ ?_ hi hN
 ·intro n acc _
  rw [spec_insert_L1, if_neg (by simp [len_def])]; simp
 ·intro n i hi ih acc ha
  obtain ⟨y, hy, _⟩ := at_lt hi
  rw [spec_insert_L1, if_pos (by simp [len_def]; omega), get_lt hy]
  simp only [Bool.not_true, Bool.false_eq_true, if_false, Option.bind_some]
  rw [app_ok _ _ 8 (by simp; omega) (by simp; omega)]
  simp only [Option.bind_some]
  rw [w_id (by omega) (by omega), show ((i : Int) + 1) = ((i + 1 : Nat) : Int) by omega, ih _ (by simp; omega), drop_cons hy]
  simp
theorem insert_L1_eq {l : List Int} {x : Int} (hl : l.length ≤ 1048576) {N i : Nat} (hi : i ≤ l.length) (hN : l.length - i < N) : ∀ acc : List Int, acc.length ≤ i → spec_insert_L1 l x N false (i : Int) acc = some (insD (l.drop i) x, acc ++ insA (l.drop i) x) := by
 refine loop_ind l.length (fun N i => l.length - i < N → ∀ acc : List Int, acc.length ≤ i → spec_insert_L1 l x N false (i : Int) acc = some (insD (l.drop i) x, acc ++ insA (l.drop i) x)) ?_ ?_ hi hN hN
 ·intro n _ acc _
  rw [spec_insert_L1, if_neg (by simp [len_def])]; simp [insD, insA]
 ·intro n i hi ih hf acc ha
  obtain ⟨y, hy, _⟩ := at_lt hi
  have ih := ih (by omega)
  rw [spec_insert_L1, if_pos (by simp [len_def]; omega), get_lt hy]
  simp only [Bool.not_false, if_true, Option.bind_some]
  rw [w_id (n := (i : Int) + 1) (by omega) (by omega), show ((i : Int) + 1) = ((i + 1 : Nat) : Int) by omega, drop_cons hy]
  have done := insert_L1_done (l := l) (x := x) hl (N := n) (i := i + 1) (by omega) (by omega)
  by_cases h : x ≤ y
  ·simp only [h, decide_true, if_true]
   by_cases h2 : x < y
   ·simp only [h2, decide_true, if_true]
    rw [app_ok acc [x] 8 (by simp; omega) (by simp; omega)]
    simp only [Option.bind_some]
    rw [app_ok _ _ 8 (by simp; omega) (by simp; omega)]
    simp only [Option.bind_some]
    rw [done _ (by simp; omega)]
    simp [insD, insA, ins, h, h2]
   ·simp only [h2, decide_false, Bool.false_eq_true, if_false, Option.bind_some]
    rw [app_ok _ _ 8 (by simp; omega) (by simp; omega)]
    simp only [Option.bind_some]
    rw [done _ (by simp; omega)]
    simp [insD, insA, ins, h, h2]
  ·simp only [h, decide_false, Bool.false_eq_true, if_false, Option.bind_some]
   rw [app_ok _ _ 8 (by simp; omega) (by simp; omega)]
   simp only [Option.bind_some]
   rw [ih _ (by simp; omega)]
   simp only [insD, insA, ins, h, if_false, List.append_assoc, List.singleton_append]
   cases insD (l.drop (i + 1)) x <;> simp
theorem spec_insert_eq {l : List Int} {x : Int} (hl : l.length ≤ 1048576) {N : Nat} (hN : 2000000 ≤ N) : spec_insert N l x = some (ins l x) := by
 unfold spec_insert
 have := insert_L1_eq (l := l) (x := x) hl (Nat.zero_le _) (by omega : l.length - 0 < N) [] (by simp)
 rw [show ((0 : Nat) : Int) = 0 from rfl, List.drop_zero] at this
 rw [this]
 simp only [Option.bind_some, List.nil_append]
 rw [ins_A]
 cases hd : insD l x with
 | true => simp
 | false =>
  simp only [Bool.not_false, if_true, Bool.false_eq_true, if_false]
  have e : insA l x = l := by simp [insA, hd]
  rw [e, app_ok _ _ 8 (by simp; omega) (by simp; omega)]
  rfl
theorem asc_ext : ∀ {a b : List Int}, a.Pairwise (· < ·) → b.Pairwise (· < ·) → (∀ x, x ∈ a ↔ x ∈ b) → a = b
 | [], [], _, _, _ => rfl
 | [], y :: b, _, _, h => by have := (h y).2 (by simp); simp at this
 | x :: a, [], _, _, h => by have := (h x).1 (by simp); simp at this
 | x :: a, y :: b, ha, hb, h => by
  rw [List.pairwise_cons] at ha hb
  have e : x = y := by
   rcases List.mem_cons.1 ((h x).1 (by simp)) with e | h1
   ·exact e
   ·rcases List.mem_cons.1 ((h y).2 (by simp)) with e | h2
    ·exact e.symm
    ·have := hb.1 x h1; have := ha.1 y h2; omega
  subst e
  rw [asc_ext ha.2 hb.2 fun z => ?_]
  constructor
  ·intro hz
   rcases List.mem_cons.1 ((h z).1 (by simp [hz])) with e | h1
   ·subst e; have := ha.1 z hz; omega
   ·exact h1
  ·intro hz
   rcases List.mem_cons.1 ((h z).2 (by simp [hz])) with e | h1
   ·subst e; have := hb.1 z hz; omega
   ·exact h1
theorem get_bang {l : List Int} {i : Nat} (h : i < l.length) : l.toArray[i]! = l[i] := by simp [h]
theorem compact_asc {l : List Int} (h : l.Pairwise (· ≤ ·)) : (Lib.compact l).Pairwise (· < ·) := by
 unfold Lib.compact Lib.compactUpTo
 rw [List.pairwise_map, List.pairwise_filter]
 have hr : (List.range l.length).Pairwise (fun a b => a < b ∧ b < l.length) := by
  have h1 := List.pairwise_lt_range (n := l.length)
  exact (List.Pairwise.and_mem.1 h1).imp fun ⟨_, h2, h3⟩ => ⟨h3, List.mem_range.1 h2⟩
 refine hr.imp fun {i j} ⟨hij, hj⟩ _ hk => ?_
 unfold Lib.keeps at hk
 simp only [decide_eq_true_eq] at hk
 have hk : l.toArray[j]! ≠ l.toArray[j - 1]! := hk.resolve_left (by omega)
 rw [get_bang hj, get_bang (by omega)] at hk
 rw [get_bang (by omega), get_bang hj]
 have mono : ∀ a b (ha : a < l.length) (hb : b < l.length), a ≤ b → l[a] ≤ l[b] := fun a b ha hb hab => by
  rcases Nat.lt_or_eq_of_le hab with h1 | h1
  ·exact List.pairwise_iff_getElem.1 h a b ha hb h1
  ·subst h1; exact Int.le_refl _
 have h1 := mono i (j - 1) (by omega) (by omega) (by omega)
 have h2 := mono (j - 1) j (by omega) hj (by omega)
 omega
theorem compact_mem {l : List Int} (x : Int) : x ∈ Lib.compact l ↔ x ∈ l := by
 unfold Lib.compact Lib.compactUpTo
 simp only [List.mem_map, List.mem_filter, List.mem_range]
 constructor
 ·rintro ⟨i, ⟨hi, _⟩, rfl⟩
  rw [get_bang hi]; exact List.getElem_mem hi
 ·intro hx
  obtain ⟨i, hi, rfl⟩ := List.mem_iff_getElem.1 hx
  have key : ∀ (n : Nat) (hn : n < l.length), ∃ a, (a < l.length ∧ Lib.keeps l.toArray a = true) ∧ l.toArray[a]! = l[n] := by
   intro n
   induction n with
   | zero => exact fun hn => ⟨0, ⟨hn, by simp [Lib.keeps]⟩, get_bang hn⟩
   | succ n ih =>
    intro hn
    by_cases e : l[n + 1] = l[n]
    ·obtain ⟨a, h1, h2⟩ := ih (by omega)
     exact ⟨a, h1, h2.trans e.symm⟩
    ·refine ⟨n + 1, ⟨hn, ?_⟩, get_bang hn⟩
     unfold Lib.keeps
     simp only [decide_eq_true_eq]
     right
     rw [get_bang hn, get_bang (by omega)]
     exact e
  exact key i hi
mutual
def vs : Step → List Int | .mk o _ _ a k => if ctg o then [] else a ++ vsk k
def vsk : List (BlockOf Step) → List Int | [] => [] | b :: k => vsb b ++ vsk k
def vsb : BlockOf Step → List Int | ⟨ss, r⟩ => vsl ss ++ [r]
def vsl : List Step → List Int | [] => [] | s :: l => vs s ++ vsl l
end
theorem vs_eq (s : Step) : vs s = if ctg s.op then [] else s.args ++ vsk s.kids := by cases s with | mk o x y a k => show (if ctg o then [] else a ++ vsk k) = _; rfl
theorem vsb_eq (b : Block) : vsb b = vsl b.steps ++ [b.result] := by cases b; simp [vsb]
mutual
theorem vs_le : ∀ s : Step, (vs s).length ≤ ssz s
 | .mk o _ _ a k => by
  have h1 := vsk_le k
  simp only [vs, ssz]
  split <;> simp <;> omega
theorem vsk_le : ∀ k : List (BlockOf Step), (vsk k).length ≤ k.length + ksz k
 | [] => by simp [vsk]
 | b :: k => by
  have h1 := vsb_le b
  have h2 := vsk_le k
  simp only [vsk, ksz, List.length_cons, List.length_append]
  omega
theorem vsb_le : ∀ b : BlockOf Step, (vsb b).length ≤ 1 + bsz b
 | ⟨ss, r⟩ => by
  have h1 := vsl_le ss
  simp only [vsb, bsz, List.length_append, List.length_singleton]
  omega
theorem vsl_le : ∀ l : List Step, (vsl l).length ≤ lsz l
 | [] => by simp [vsl]
 | s :: l => by
  have h1 := vs_le s
  have h2 := vsl_le l
  simp only [vsl, lsz, List.length_append]
  omega
end
theorem vsl_from_le (l : List Step) (i : Nat) : (vsl (l.drop i)).length ≤ (vsl l).length := by
 induction l generalizing i with
 | nil => simp
 | cons s l ih =>
  cases i with
  | zero => simp
  | succ i => have := ih i; simp only [List.drop_succ_cons, vsl, List.length_append]; omega
def insL (n : Int) (l : List Int) (xs : List Int) : List Int := xs.foldl (fun acc x => if 0 ≤ x ∧ x < n then ins acc x else acc) l
theorem insL_app (n : Int) (l xs ys : List Int) : insL n l (xs ++ ys) = insL n (insL n l xs) ys := by unfold insL; rw [List.foldl_append]
theorem insL_len (n : Int) : ∀ (xs l : List Int), (insL n l xs).length ≤ l.length + xs.length
 | [], l => by simp [insL]
 | x :: xs, l => by
  have h1 := insL_len n xs (if 0 ≤ x ∧ x < n then ins l x else l)
  have h2 := ins_len l x
  have h3 : (if 0 ≤ x ∧ x < n then ins l x else l).length ≤ l.length + 1 := by split <;> omega
  unfold insL at h1 ⊢
  rw [List.foldl_cons, List.length_cons]
  omega
theorem insL_mem (n : Int) : ∀ (xs l : List Int) (y : Int), y ∈ insL n l xs ↔ y ∈ l ∨ (y ∈ xs ∧ 0 ≤ y ∧ y < n)
 | [], l, y => by simp [insL]
 | x :: xs, l, y => by
  have h1 := insL_mem n xs (if 0 ≤ x ∧ x < n then ins l x else l) y
  unfold insL at h1 ⊢
  rw [List.foldl_cons, h1]
  by_cases hx : 0 ≤ x ∧ x < n
  ·rw [if_pos hx, ins_mem]
   simp only [List.mem_cons]
   constructor
   ·rintro ((rfl | h) | ⟨h, h'⟩)
    ·exact .inr ⟨.inl rfl, hx⟩
    ·exact .inl h
    ·exact .inr ⟨.inr h, h'⟩
   ·rintro (h | ⟨(rfl | h), h'⟩)
    ·exact .inl (.inr h)
    ·exact .inl (.inl rfl)
    ·exact .inr ⟨h, h'⟩
  ·rw [if_neg hx]
   simp only [List.mem_cons]
   constructor
   ·rintro (h | ⟨h, h'⟩)
    ·exact .inl h
    ·exact .inr ⟨.inr h, h'⟩
   ·rintro (h | ⟨(rfl | h), h'⟩)
    ·exact .inl h
    ·exact absurd h' hx
    ·exact .inr ⟨h, h'⟩
theorem insL_asc (n : Int) : ∀ (xs : List Int) {l : List Int}, l.Pairwise (· < ·) → (insL n l xs).Pairwise (· < ·)
 | [], _, h => h
 | x :: xs, l, h => by
  unfold insL
  rw [List.foldl_cons]
  refine insL_asc n xs ?_
  split
  ·exact ins_asc x h
  ·exact h
theorem used_eq (n : Int) (xs : List Int) : (Lib.compact (xs.mergeSort fun x y => decide (x ≤ y))).filter (fun v => decide (0 ≤ v) && decide (v < n)) = insL n [] xs := by
 have hs : (xs.mergeSort fun x y => decide (x ≤ y)).Pairwise (· ≤ ·) := (List.pairwise_mergeSort (le := fun x y : Int => decide (x ≤ y)) (fun a b c h1 h2 => by simp only [decide_eq_true_eq] at *; omega) (fun a b => by simp only [Bool.or_eq_true, decide_eq_true_eq]; omega) xs).imp fun h => by simpa using h
 refine asc_ext ((compact_asc hs).filter _) (insL_asc n xs (by simp)) fun x => ?_
 rw [List.mem_filter, compact_mem, List.mem_mergeSort, insL_mem]
 simp
theorem addStep_L1 {s : Step} {n : Int} (ha : s.args.length ≤ 1048576) {M : Nat} (hM : 2000000 ≤ M) {N i : Nat} (hi : i ≤ s.args.length) (hN : s.args.length - i < N) : ∀ l : List Int, l.length + (s.args.length - i) ≤ 1048577 → spec_addStepUses_L1 M s n N l (i : Int) = some (insL n l (s.args.drop i)) := by
 refine loop_ind s.args.length (fun N i => ∀ l : List Int, l.length + (s.args.length - i) ≤ 1048577 → spec_addStepUses_L1 M s n N l (i : Int) = some (insL n l (s.args.drop i))) ?_ ?_ hi hN
 ·intro f l _
  rw [spec_addStepUses_L1, if_neg (by simp [len_def])]; simp [insL]
 ·intro f i hi ih l hl
  obtain ⟨x, hx, _⟩ := at_lt hi
  have hil := ins_len l x
  rw [spec_addStepUses_L1, if_pos (by simp [len_def]; omega), get_lt hx]
  simp only [Option.bind_some]
  rw [w_nat (by omega), drop_cons hx]
  have hins := spec_insert_eq (x := x) (l := l) (by omega) hM
  by_cases h0 : 0 ≤ x
  ·by_cases h1 : x < n
   ·simp only [h0, h1, decide_true, if_true, Option.bind_some]
    rw [hins]
    simp only [Option.bind_some]
    rw [ih _ (by omega)]
    simp [insL, h0, h1]
   ·simp only [h0, h1, decide_true, decide_false, if_true, Option.bind_some, Bool.false_eq_true, if_false]
    rw [ih _ (by omega)]
    simp [insL, h1]
  ·simp only [h0, decide_false, Option.bind_some, Bool.false_eq_true, if_false]
   rw [ih _ (by omega)]
   simp [insL, h0]
def AU (rec : Block → Int → Int → List Int → Option (List Int)) (b : Block) : Prop := ∀ (n : Int) (l : List Int), l.length + (vsb b).length ≤ 1048577 → rec b n 0 l = some (insL n l (vsb b))
theorem addStep_L2 {s : Step} {n : Int} {rec : Block → Int → Int → List Int → Option (List Int)} (hk : s.kids.length ≤ 1048576) (hrec : ∀ c ∈ s.kids, AU rec c) {N i : Nat} (hi : i ≤ s.kids.length) (hN : s.kids.length - i < N) : ∀ l : List Int, l.length + (vsk (s.kids.drop i)).length ≤ 1048577 → spec_addStepUses_L2 s n rec N l (i : Int) = some (insL n l (vsk (s.kids.drop i))) := by
 refine loop_ind s.kids.length (fun N i => ∀ l : List Int, l.length + (vsk (s.kids.drop i)).length ≤ 1048577 → spec_addStepUses_L2 s n rec N l (i : Int) = some (insL n l (vsk (s.kids.drop i)))) ?_ ?_ hi hN
 ·intro f l _
  rw [spec_addStepUses_L2, if_neg (by simp [len_def])]; simp [insL, vsk]
 ·intro f i hi ih l hl
  obtain ⟨c, hc, hcm⟩ := at_lt hi
  rw [drop_cons hc, vsk, List.length_append] at hl
  have hil := insL_len n (vsb c) l
  rw [spec_addStepUses_L2, if_pos (by simp [len_def]; omega), get_lt hc]
  simp only [Option.bind_some]
  rw [hrec c hcm n l (by omega)]
  simp only [Option.bind_some]
  rw [w_nat (by omega), ih _ (by omega), drop_cons hc, vsk, insL_app]
theorem addStep_eq {N : Nat} (hN : 2000000 ≤ N) {rec : Block → Int → Int → List Int → Option (List Int)} {s : Step} {n : Int} (ha : s.args.length ≤ 1048576) (hk : s.kids.length ≤ 1048576) (hrec : ∀ c ∈ s.kids, AU rec c) {l : List Int} (hl : l.length + (vs s).length ≤ 1048577) : spec_addStepUses N rec s n l = some (insL n l (vs s)) := by
 rw [vs_eq] at hl ⊢
 unfold spec_addStepUses
 rw [ctg_spec]
 simp only [Option.bind_some]
 cases hc : ctg s.op with
 | true => simp [insL]
 | false =>
  rw [hc] at hl
  simp only [Bool.false_eq_true, if_false, List.length_append] at hl ⊢
  have h1 := addStep_L1 (s := s) (n := n) ha hN (Nat.zero_le _) (by omega : s.args.length - 0 < N) l (by omega)
  have h0 := insL_len n s.args l
  have h2 := addStep_L2 (s := s) (n := n) hk hrec (Nat.zero_le _) (by omega : s.kids.length - 0 < N) (insL n l s.args) (by rw [List.drop_zero]; omega)
  rw [show ((0 : Nat) : Int) = 0 from rfl, List.drop_zero] at h1 h2
  rw [h1]
  simp only [Option.bind_some]
  rw [h2, insL_app]; rfl
theorem addUses_L1 {b : Block} {n : Int} {rec : Block → Int → Int → List Int → Option (List Int)} {M : Nat} (hM : 2000000 ≤ M) (hb : Bs b) (hrec : ∀ s ∈ b.steps, ∀ c ∈ s.kids, AU rec c) {N i : Nat} (hi : i ≤ b.steps.length) (hN : b.steps.length - i < N) : ∀ l : List Int, l.length + (vsl (b.steps.drop i)).length ≤ 1048577 → spec_addUses_B_L1 M b n rec N l (i : Int) = some (insL n l (vsl (b.steps.drop i))) := by
 have hbl := hb.len
 refine loop_ind b.steps.length (fun N i => ∀ l : List Int, l.length + (vsl (b.steps.drop i)).length ≤ 1048577 → spec_addUses_B_L1 M b n rec N l (i : Int) = some (insL n l (vsl (b.steps.drop i)))) ?_ ?_ hi hN
 ·intro f l _
  rw [spec_addUses_B_L1, if_neg (by simp [len_def])]; simp [insL, vsl]
 ·intro f i hi ih l hl
  obtain ⟨s, hs, hsm⟩ := at_lt hi
  rw [drop_cons hs, vsl, List.length_append] at hl
  have hil := insL_len n (vs s) l
  rw [spec_addUses_B_L1, if_pos (by simp [len_def]; omega), get_lt hs]
  simp only [Option.bind_some]
  rw [addStep_eq hM (args_len hb hsm) (kids_len hb hsm) (hrec s hsm) (by omega)]
  simp only [Option.bind_some]
  rw [w_nat (by omega), ih _ (by omega), drop_cons hs, vsl, insL_app]
theorem addUses_F {N : Nat} (hN : 2000000 ≤ N) : ∀ (m : Nat) (b : Block), Bs b → bsz b < m → ∀ (n : Int) (i : Nat) (l : List Int), i ≤ b.steps.length → l.length + (vsl (b.steps.drop i)).length + 1 ≤ 1048577 → spec_addUses_F N m b n i l = some (insL n l (vsl (b.steps.drop i) ++ [b.result])) := by
 intro m
 induction m with
 | zero => intro b _ h; omega
 | succ m ih =>
  intro b hb hm n i l hi hl
  have hbl := hb.len
  have hil := insL_len n (vsl (b.steps.drop i)) l
  rw [spec_addUses_F]
  unfold spec_addUses_B
  rw [addUses_L1 hN hb (fun s hs c hc n l hl => by
   have h1 := kid_bs hb hs hc
   rw [vsb_eq] at hl ⊢
   have := ih c h1.1 (by omega) n 0 l (Nat.zero_le _) (by simp only [List.length_append, List.length_singleton] at hl; rw [List.drop_zero]; omega)
   rwa [show ((0 : Nat) : Int) = 0 from rfl, List.drop_zero] at this) hi (by omega) l (by omega)]
  simp only [Option.bind_some]
  have hins := spec_insert_eq (x := b.result) (l := insL n l (vsl (b.steps.drop i))) (by omega) hN
  rw [insL_app]
  by_cases h0 : 0 ≤ b.result
  ·by_cases h1 : b.result < n
   ·simp only [h0, h1, decide_true, if_true, Option.bind_some]
    rw [hins]
    simp [insL, h0, h1]
   ·simp [h0, h1, insL]
  ·simp [h0, insL]
theorem addUses_eq {N : Nat} (hN : 2000000 ≤ N) {b : Block} (hb : Bs b) (n : Int) {i : Nat} (hi : i ≤ b.steps.length) : spec_addUses N b n i [] = some (insL n [] (vsl (b.steps.drop i) ++ [b.result])) := by
 unfold spec_addUses
 have h1 := vsl_le b.steps
 have h2 := vsl_from_le b.steps i
 have hb' := hb
 unfold Bs at hb'
 rw [bsz_eq] at hb'
 exact addUses_F hN N b hb (by unfold Bs at hb; omega) n i [] hi (by simp; omega)
theorem vstep_L1 {s : Step} (ha : s.args.length ≤ 1048576) {N i : Nat} (hi : i ≤ s.args.length) (hN : s.args.length - i < N) : ∀ l : List Int, l.length + (s.args.length - i) ≤ 5048576 → impl_visitStep_3_L1 s N (i : Int) l = some (l ++ s.args.drop i) := by
 refine loop_ind s.args.length (fun N i => ∀ l : List Int, l.length + (s.args.length - i) ≤ 5048576 → impl_visitStep_3_L1 s N (i : Int) l = some (l ++ s.args.drop i)) ?_ ?_ hi hN
 ·intro f l _
  rw [impl_visitStep_3_L1, if_neg (by simp [len_def])]; simp
 ·intro f i hi ih l hl
  obtain ⟨x, hx, _⟩ := at_lt hi
  rw [impl_visitStep_3_L1, if_pos (by simp [len_def]; omega), get_lt hx]
  simp only [Option.bind_some]
  unfold impl_setOf_1
  rw [app_ok _ _ 8 (by simp; omega) (by simp; omega)]
  simp only [Option.bind_some]
  rw [w_nat (by omega), ih _ (by simp; omega), drop_cons hx, List.append_assoc]; rfl
def VU (rec : List Int → Block → Int → Option (List Int)) (b : Block) : Prop := ∀ l : List Int, l.length + (vsb b).length ≤ 3000000 → rec l b 0 = some (l ++ vsb b)
theorem vstep_L2 {s : Step} {rec : List Int → Block → Int → Option (List Int)} (hk : s.kids.length ≤ 1048576) (hrec : ∀ c ∈ s.kids, VU rec c) {N i : Nat} (hi : i ≤ s.kids.length) (hN : s.kids.length - i < N) : ∀ l : List Int, l.length + (vsk (s.kids.drop i)).length ≤ 3000000 → impl_visitStep_3_L2 s rec N (i : Int) l = some (l ++ vsk (s.kids.drop i)) := by
 refine loop_ind s.kids.length (fun N i => ∀ l : List Int, l.length + (vsk (s.kids.drop i)).length ≤ 3000000 → impl_visitStep_3_L2 s rec N (i : Int) l = some (l ++ vsk (s.kids.drop i))) ?_ ?_ hi hN
 ·intro f l _
  rw [impl_visitStep_3_L2, if_neg (by simp [len_def])]; simp [vsk]
 ·intro f i hi ih l hl
  obtain ⟨c, hc, hcm⟩ := at_lt hi
  rw [drop_cons hc, vsk, List.length_append] at hl
  rw [impl_visitStep_3_L2, if_pos (by simp [len_def]; omega), get_lt hc]
  simp only [Option.bind_some]
  rw [hrec c hcm l (by omega)]
  simp only [Option.bind_some]
  rw [w_nat (by omega), ih _ (by simp; omega), drop_cons hc, vsk, List.append_assoc]
theorem vstep_eq {N : Nat} (hN : 2000000 ≤ N) {rec : List Int → Block → Int → Option (List Int)} {s : Step} (ha : s.args.length ≤ 1048576) (hk : s.kids.length ≤ 1048576) (hrec : ∀ c ∈ s.kids, VU rec c) {l : List Int} (hl : l.length + (vs s).length ≤ 3000000) : impl_visitStep_3 N rec l s = some (l ++ vs s) := by
 rw [vs_eq] at hl ⊢
 unfold impl_visitStep_3
 rw [ctg_impl]
 simp only [Option.bind_some]
 cases hc : ctg s.op with
 | true => simp
 | false =>
  rw [hc] at hl
  simp only [Bool.false_eq_true, if_false, List.length_append] at hl ⊢
  have h1 := vstep_L1 (s := s) ha (Nat.zero_le _) (by omega : s.args.length - 0 < N) l (by omega)
  have h2 := vstep_L2 (s := s) hk hrec (Nat.zero_le _) (by omega : s.kids.length - 0 < N) (l ++ s.args) (by rw [List.drop_zero, List.length_append]; omega)
  rw [show ((0 : Nat) : Int) = 0 from rfl, List.drop_zero] at h1 h2
  rw [h1]
  simp only [Option.bind_some]
  rw [h2, List.append_assoc]; rfl
theorem sl_from {α : Type} {l : List α} {i : Nat} (h : i ≤ l.length) : Sh.sl l (i : Int) (Sh.len l) = some (l.drop i) := by
 unfold Sh.sl
 rw [len_def, if_pos (by omega)]
 simp
theorem vuses_L1 {b : Block} {L : List Step} {rec : List Int → Block → Int → Option (List Int)} {M : Nat} (hM : 2000000 ≤ M) (hb : Bs b) (hL : ∀ s ∈ L, s ∈ b.steps) (hLl : L.length ≤ 1048576) (hrec : ∀ s ∈ b.steps, ∀ c ∈ s.kids, VU rec c) {N i : Nat} (hi : i ≤ L.length) (hN : L.length - i < N) : ∀ l : List Int, l.length + (vsl (L.drop i)).length ≤ 3000000 → impl_visitUses_3_B_L1 M L rec N (i : Int) l = some (l ++ vsl (L.drop i)) := by
 refine loop_ind L.length (fun N i => ∀ l : List Int, l.length + (vsl (L.drop i)).length ≤ 3000000 → impl_visitUses_3_B_L1 M L rec N (i : Int) l = some (l ++ vsl (L.drop i))) ?_ ?_ hi hN
 ·intro f l _
  rw [impl_visitUses_3_B_L1, if_neg (by simp [len_def])]; simp [vsl]
 ·intro f i hi ih l hl
  obtain ⟨s, hs, hsm⟩ := at_lt hi
  have hsm := hL s hsm
  rw [drop_cons hs, vsl, List.length_append] at hl
  rw [impl_visitUses_3_B_L1, if_pos (by simp [len_def]; omega), get_lt hs]
  simp only [Option.bind_some]
  rw [vstep_eq hM (args_len hb hsm) (kids_len hb hsm) (hrec s hsm) (by omega)]
  simp only [Option.bind_some]
  rw [w_nat (by omega), ih _ (by simp; omega), drop_cons hs, vsl, List.append_assoc]
theorem vuses_F {N : Nat} (hN : 2000000 ≤ N) : ∀ (m : Nat) (b : Block), Bs b → bsz b < m → ∀ (i : Nat) (l : List Int), i ≤ b.steps.length → l.length + (vsl (b.steps.drop i)).length + 1 ≤ 3000000 → impl_visitUses_3_F N m l b i = some (l ++ (vsl (b.steps.drop i) ++ [b.result])) := by
 intro m
 induction m with
 | zero => intro b _ h; omega
 | succ m ih =>
  intro b hb hm i l hi hl
  have hbl := hb.len
  rw [impl_visitUses_3_F]
  unfold impl_visitUses_3_B
  rw [sl_from hi]
  simp only [Option.bind_some]
  have key := vuses_L1 (L := b.steps.drop i) hN hb (fun s hs => List.mem_of_mem_drop hs) (by simp; omega) (rec := impl_visitUses_3_F N m) (fun s hs c hc l hl => by
   have h1 := kid_bs hb hs hc
   rw [vsb_eq] at hl ⊢
   have := ih c h1.1 (by omega) 0 l (Nat.zero_le _) (by simp only [List.length_append, List.length_singleton] at hl; rw [List.drop_zero]; omega)
   rwa [show ((0 : Nat) : Int) = 0 from rfl, List.drop_zero] at this) (Nat.zero_le _) (by simp; omega : (b.steps.drop i).length - 0 < N) l (by rw [List.drop_zero]; omega)
  rw [show ((0 : Nat) : Int) = 0 from rfl, List.drop_zero] at key
  rw [key]
  simp only [Option.bind_some]
  unfold impl_setOf_1
  rw [app_ok _ _ 8 (by simp; omega) (by simp; omega), List.append_assoc]; rfl
theorem setOf_eq {N : Nat} (hN : 2000000 ≤ N) {b : Block} (hb : Bs b) {i : Nat} (hi : i ≤ b.steps.length) : impl_setOf N b i = some (Lib.compact ((vsl (b.steps.drop i) ++ [b.result]).mergeSort fun x y => decide (x ≤ y))) := by
 have h1 := vsl_le b.steps
 have h2 := vsl_from_le b.steps i
 have hb' := hb
 unfold Bs at hb'
 rw [bsz_eq] at hb'
 unfold impl_setOf impl_visitUses_3
 rw [vuses_F hN N b hb (by unfold Bs at hb; omega) i [] hi (by simp; omega)]
 simp only [Option.bind_some, List.nil_append]
 unfold slices_Sort_int_int
 rw [if_pos (by simp; omega)]; rfl
theorem where_eq {N : Nat} (hN : 2000000 ≤ N) {n : Int} {l : List Int} (hl : l.length ≤ 1048577) : impl_varSet_where N n l = some (l.filter fun v => decide (0 ≤ v) && decide (v < n)) := by
 unfold impl_varSet_where
 have key : ∀ {M i : Nat}, i ≤ l.length → l.length - i < M → ∀ acc : List Int, acc.length ≤ i → impl_varSet_where_L1 n l M (i : Int) acc = some (acc ++ (l.drop i).filter fun v => decide (0 ≤ v) && decide (v < n)) := by
  intro M i hi hM
  refine loop_ind l.length (fun M i => ∀ acc : List Int, acc.length ≤ i → impl_varSet_where_L1 n l M (i : Int) acc = some (acc ++ (l.drop i).filter fun v => decide (0 ≤ v) && decide (v < n))) ?_ ?_ hi hM
  ·intro q acc _
   rw [impl_varSet_where_L1, if_neg (by simp [len_def])]; simp
  ·intro q i hi ih acc ha
   obtain ⟨x, hx, _⟩ := at_lt hi
   rw [impl_varSet_where_L1, if_pos (by simp [len_def]; omega), get_lt hx]
   simp only [Option.bind_some]
   unfold impl_varSet_below_1
   rw [w_id (n := (i : Int) + 1) (by omega) (by omega), show ((i : Int) + 1) = ((i + 1 : Nat) : Int) by omega, drop_cons hx]
   by_cases h0 : 0 ≤ x
   ·by_cases h1 : x < n
    ·simp only [h0, h1, decide_true, if_true, Option.bind_some]
     rw [app_ok _ _ 8 (by simp; omega) (by simp; omega)]
     simp only [Option.bind_some]
     rw [ih _ (by simp; omega)]
     simp [h0, h1]
    ·simp only [h0, h1, decide_true, decide_false, if_true, Option.bind_some, Bool.false_eq_true, if_false]
     rw [ih _ (by omega)]
     simp [h1]
   ·simp only [h0, decide_false, Option.bind_some, Bool.false_eq_true, if_false]
    rw [ih _ (by omega)]
    simp [h0]
 have k := key (Nat.zero_le _) (by omega : l.length - 0 < N) [] (by simp)
 rw [show ((0 : Nat) : Int) = 0 from rfl, List.drop_zero] at k
 rw [k]; rfl
theorem impl_used {N : Nat} (hN : 2000000 ≤ N) {b : Block} (hb : Bs b) (n : Int) {i : Nat} (hi : i ≤ b.steps.length) : Option.bind (impl_setOf N b i) (fun q => impl_varSet_below N q n) = some (insL n [] (vsl (b.steps.drop i) ++ [b.result])) := by
 have h1 := vsl_le b.steps
 have h2 := vsl_from_le b.steps i
 have hb' := hb
 unfold Bs at hb'
 rw [bsz_eq] at hb'
 rw [setOf_eq hN hb hi]
 simp only [Option.bind_some]
 unfold impl_varSet_below
 have hc : (Lib.compact ((vsl (b.steps.drop i) ++ [b.result]).mergeSort fun x y => decide (x ≤ y))).length ≤ ((vsl (b.steps.drop i) ++ [b.result]).mergeSort fun x y => decide (x ≤ y)).length := by
  unfold Lib.compact Lib.compactUpTo
  rw [List.length_map]
  exact Nat.le_trans (List.length_filter_le _ _) (by simp)
 rw [where_eq hN (by simp only [List.length_mergeSort, List.length_append, List.length_singleton] at hc; omega), used_eq]; rfl
theorem used_small {b : Block} (hb : Bs b) (n : Int) (i : Nat) : (insL n [] (vsl (b.steps.drop i) ++ [b.result])).length ≤ 1048576 := by
 have h0 := insL_len n (vsl (b.steps.drop i) ++ [b.result]) []
 have h1 := vsl_le b.steps
 have h2 := vsl_from_le b.steps i
 unfold Bs at hb
 rw [bsz_eq] at hb
 simp only [List.length_append, List.length_singleton, List.length_nil] at h0
 by_cases hs : b.steps.length = 0
 ·have h3 : b.steps = [] := List.length_eq_zero_iff.1 hs
  have h4 : (vsl (b.steps.drop i)).length = 0 := by rw [h3]; simp [vsl]
  omega
 ·omega
theorem UsedIn_both {N : Nat} (hN : 2000000 ≤ N) {b : Block} (hb : Bs b) (n : Int) : ∃ l, l.length ≤ 1048576 ∧ spec_UsedIn N b n = some l ∧ impl_UsedIn N b n = some l := by
 unfold spec_UsedIn impl_UsedIn
 rw [spec_stepsOf_eq hb hN, impl_StepsOf_eq hb hN]
 simp only [Option.bind_some]
 by_cases h6 : nst b ≤ 600
 ·rw [if_pos h6]
  have hneg : ¬ (nst b : Int) < 0 := by omega
  simp only [hneg, decide_false, Bool.false_eq_true, if_false]
  have h1 := addUses_eq hN hb n (Nat.zero_le b.steps.length)
  have h2 := impl_used hN hb n (Nat.zero_le b.steps.length)
  rw [show ((0 : Nat) : Int) = 0 from rfl] at h1 h2
  refine ⟨_, used_small hb n 0, ?_, ?_⟩
  ·unfold spec_usedIn
   rw [h1]; rfl
  ·rw [← h2]
   cases impl_setOf N b 0 <;> simp
 ·rw [if_neg h6]
  refine ⟨[], by simp, ?_, ?_⟩ <;> simp
theorem markBlock_eq {b : Block} (hb : Bs b) {N : Nat} (hN : 2000000 ≤ N) : ∃ (k : Nat) (l : List Step), laws_markBlock N b.steps b.result 1 = some ((k : Int), l) := by
 have h1 := mls_le b.steps
 have hb' := hb
 unfold Bs at hb'
 rw [bsz_eq] at hb'
 obtain ⟨k, l, _, h⟩ := markStepS_eq hN hb 1 (by omega)
 refine ⟨k, l, ?_⟩
 unfold laws_markBlock
 rw [show (1 : Int) = ((1 : Nat) : Int) from rfl, h]; rfl
theorem FnExactUsedIn_plain {b : Block} (hb : BlockIn b) {n : Int} (_ : I64 n) : laws_FnExactUsedIn 2000000 b n = some true := by
 have hN : (2000000 : Nat) ≤ 2000000 := Nat.le_refl _
 unfold laws_FnExactUsedIn
 rw [szBlock_eq hb hN]
 simp only [Option.bind_some]
 unfold lf
 by_cases hz : (1048576 : Int) - (bsz b : Int) < 0
 ·simp [hz]
 ·rw [if_neg hz]
  have hB : Bs b := by unfold Bs; omega
  obtain ⟨l, hl, h1, h2⟩ := UsedIn_both hN hB n
  obtain ⟨q, r, m1⟩ := markBlock_eq hB hN
  have e1 := markIntS_eq (l := l) (by omega) (k := 1) (by omega) hN
  have e2 := heldIntS_eq (m := l.length) (by omega) (k := 1) (by omega) hN
  rw [show ((1 : Nat) : Int) = 1 from rfl] at e1 e2
  rw [if_neg (by simpa using hz), toBlock_eq hB hN, toBlock_eq2 hB hN]
  simp only [Option.bind_some]
  rw [h1, h2]
  simp only [Option.bind_some]
  rw [eqIntS_eq (by omega) hN, eqBlock_eq hB hN, m1]
  simp only [Option.bind_some]
  rw [e1]
  simp only [Option.bind_some]
  rw [e2]
  have hk : ¬ (q : Int) < 0 := by omega
  have hh : ¬ ((1 + l.length : Nat) : Int) < 0 := by omega
  simp only [hk, hh, decide_false, decide_true, Bool.not_true, Bool.false_eq_true, if_false, Option.bind_some, h2, eqIntS_eq (show l.length ≤ 1048576 by omega) hN, e2]
end RC

