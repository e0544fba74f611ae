import Derived.Test.YtgcghdgbahfcjaaGreatIVA
import Derived.Test.YtgcghdgbahfcjaaGreatHMG

namespace RC
open Go
def foldN {τ : Type} (st : Nat → τ → τ) : Nat → τ → τ
 | 0, s => s
 | i + 1, s => st i (foldN st i s)
theorem cnt_loop {τ ρ γ : Type} (len : Nat) (L : Nat → Int → ρ → Option γ) (fin : ρ → γ) (row : τ → ρ) (ok : Nat → Bool) (st : Nat → τ → τ) (J : Nat → τ → Prop) (Bad : γ → Prop)
  (h0 : ∀ n r, L (n + 1) (len : Int) r = some (fin r))
  (hs : ∀ n i s, i < len → J i s → (ok i = true → J (i + 1) (st i s) ∧ L (n + 1) (i : Int) (row s) = L n ((i + 1 : Nat) : Int) (row (st i s))) ∧ (ok i = false → ∃ e, Bad e ∧ L (n + 1) (i : Int) (row s) = some e))
  {N : Nat} (hN : len < N) {s : τ} (hJ : J 0 s) :
  ((∀ j, j < len → ok j = true) ∧ L N 0 (row s) = some (fin (row (foldN st len s))) ∧ J len (foldN st len s)) ∨ ((∃ j, j < len ∧ ok j = false) ∧ ∃ e, Bad e ∧ L N 0 (row s) = some e) := by
 have key : ∀ i, i ≤ len → ((∀ j, j < i → ok j = true) ∧ J i (foldN st i s) ∧ L N 0 (row s) = L (N - i) (i : Int) (row (foldN st i s))) ∨ ((∃ j, j < len ∧ ok j = false) ∧ ∃ e, Bad e ∧ L N 0 (row s) = some e) := by
  intro i
  induction i with
  | zero => intro _; exact .inl ⟨fun j h => absurd h (Nat.not_lt_zero j), hJ, rfl⟩
  | succ i ih =>
   intro hi
   rcases ih (by omega) with ⟨a, b, c⟩ | d
   ·obtain ⟨m, hm⟩ : ∃ m, N - i = m + 1 := ⟨N - i - 1, by omega⟩
    have h := hs m i (foldN st i s) (by omega) b
    cases ho : ok i with
    | true =>
     obtain ⟨g1, g2⟩ := h.1 ho
     refine .inl ⟨fun j hj => ?_, g1, ?_⟩
     ·rcases Nat.lt_or_ge j i with g | g
      ·exact a j g
      ·rw [show j = i by omega]; exact ho
     ·rw [c, hm, g2, show N - (i + 1) = m by omega]; rfl
    | false =>
     obtain ⟨e, g1, g2⟩ := h.2 ho
     exact .inr ⟨⟨i, by omega, ho⟩, e, g1, by rw [c, hm, g2]⟩
   ·exact .inr d
 rcases key len (Nat.le_refl _) with ⟨a, b, c⟩ | d
 ·obtain ⟨m, hm⟩ : ∃ m, N - len = m + 1 := ⟨N - len - 1, by omega⟩
  exact .inl ⟨a, by rw [c, hm, h0], b⟩
 ·exact .inr d
def at0 (l : List Int) (r : Nat) : Int := (l[r]?).getD 0
theorem at0_get {l : List Int} {r : Nat} (h : r < l.length) : Sh.get l (r : Int) = some (at0 l r) := by
 obtain ⟨x, hx, _⟩ := at_lt h
 rw [get_lt hx]; unfold at0; rw [hx]; rfl
theorem at0_mem {l : List Int} {r : Nat} (h : r < l.length) : at0 l r ∈ l := by
 obtain ⟨x, hx, hm⟩ := at_lt h
 unfold at0; rw [hx]; exact hm
theorem row_get {n : Nat} {F : Nat → Int} {w : Int} (h1 : 1000 ≤ w) (h2 : w - 1000 < (n : Int)) : Sh.get (rowOf n F) (w - 1000) = some (F (w - 1000).toNat) := by
 obtain ⟨q, hq⟩ := Int.eq_ofNat_of_zero_le (by omega : 0 ≤ w - 1000)
 rw [hq]
 exact get_lt (rowOf_get (by omega))
theorem row_put {n : Nat} {F : Nat → Int} {w v : Int} (h1 : 1000 ≤ w) : Sh.put (rowOf n F) (w - 1000) v = rowOf n (fun j => if (j : Int) + 1000 = w then v else F j) := by
 obtain ⟨q, hq⟩ := Int.eq_ofNat_of_zero_le (by omega : 0 ≤ w - 1000)
 rw [hq, put_nat, rowOf_set]
 refine rowOf_congr fun j _ => ?_
 by_cases h : j = q
 ·rw [if_pos h, if_pos (by omega)]
 ·rw [if_neg h, if_neg (by omega)]
def hsr (f : RFrame) (r : Nat) (G : Nat → Int) : Nat → Int := fun j => if (j : Int) + 1000 = at0 f.held r then G j + 1 else G j
def osr (f : RFrame) (r : Nat) (F : Nat → Int) : Nat → Int := fun j => if 0 < at0 f.own r ∧ (j : Int) + 1000 = at0 f.regs r then F j + at0 f.own r else F j
def heldF (f : RFrame) (G : Nat → Int) : Nat → Int := foldN (hsr f) f.held.length G
def ownF (f : RFrame) (F : Nat → Int) : Nat → Int := foldN (osr f) f.own.length F
def frA (s : RState) (i : Nat) : RFrame := (s.frames[i]?).getD ⟨0, 0, 0, [], [], []⟩
def heldT (s : RState) (k : Nat) (G : Nat → Int) : Nat → Int := foldN (fun i => heldF (frA s i)) k G
def ownT (s : RState) (k : Nat) (F : Nat → Int) : Nat → Int := foldN (fun i => ownF (frA s i)) k F
theorem frA_get {s : RState} {i : Nat} (h : i < s.frames.length) : Sh.get s.frames (i : Int) = some (frA s i) ∧ frA s i ∈ s.frames ∧ s.frames[i]? = some (frA s i) := by
 obtain ⟨x, hx, hm⟩ := at_lt h
 have : frA s i = x := by unfold frA; rw [hx]; rfl
 rw [this]; exact ⟨get_lt hx, hm, hx⟩
theorem foldN_add {st : Nat → (Nat → Int) → Nat → Int} (A : Nat → Int) (h : ∀ i F, st i (fun j => A j + F j) = fun j => A j + st i F j) : ∀ (n : Nat) (F : Nat → Int), foldN st n (fun j => A j + F j) = fun j => A j + foldN st n F j
 | 0, _ => rfl
 | n + 1, F => by
  show st n (foldN st n _) = _
  rw [foldN_add A h n F, h]; rfl
theorem osr_add (f : RFrame) (A : Nat → Int) (r : Nat) (F : Nat → Int) : osr f r (fun j => A j + F j) = fun j => A j + osr f r F j := by
 funext j; unfold osr
 dsimp only
 split <;> omega
theorem ownT_add (s : RState) (k : Nat) (A F : Nat → Int) : ownT s k (fun j => A j + F j) = fun j => A j + ownT s k F j :=
 foldN_add A (fun i F => foldN_add A (osr_add (frA s i) A) _ F) k F
theorem foldN_hit {st : Nat → (Nat → Int) → Nat → Int} {hit : Nat → Prop} {j : Nat} {n : Nat} (h1 : ∀ i F, i < n → hit i → F j + 1 ≤ st i F j) (h2 : ∀ i F, i < n → ¬ hit i → st i F j = F j) (F : Nat → Int) :
  ((∃ i, i < n ∧ hit i) → F j + 1 ≤ foldN st n F j) ∧ ((¬ ∃ i, i < n ∧ hit i) → foldN st n F j = F j) := by
 induction n with
 | zero => exact ⟨fun ⟨i, h, _⟩ => absurd h (Nat.not_lt_zero i), fun _ => rfl⟩
 | succ n ih =>
  obtain ⟨a, b⟩ := ih (fun i F hi => h1 i F (by omega)) (fun i F hi => h2 i F (by omega))
  have c1 := h1 n (foldN st n F) (by omega)
  have c2 := h2 n (foldN st n F) (by omega)
  show ((∃ i, i < n + 1 ∧ hit i) → F j + 1 ≤ st n (foldN st n F) j) ∧ ((¬ ∃ i, i < n + 1 ∧ hit i) → st n (foldN st n F) j = F j)
  by_cases hn : hit n
  ·have c := c1 hn
   refine ⟨fun _ => ?_, fun h => absurd ⟨n, by omega, hn⟩ h⟩
   by_cases hx : ∃ i, i < n ∧ hit i
   ·have := a hx; omega
   ·have := b hx; omega
  ·have c := c2 hn
   rw [c]
   refine ⟨fun ⟨i, hi, hh⟩ => a ⟨i, ?_, hh⟩, fun h => b fun ⟨i, hi, hh⟩ => h ⟨i, by omega, hh⟩⟩
   rcases Nat.lt_or_ge i n with g | g
   ·exact g
   ·exact absurd (show hit n by rw [show n = i by omega]; exact hh) hn
def hitF (f : RFrame) (j : Nat) : Prop := ∃ r, r < f.held.length ∧ (j : Int) + 1000 = at0 f.held r
theorem heldF_hit (f : RFrame) (j : Nat) (G : Nat → Int) : (hitF f j → G j + 1 ≤ heldF f G j) ∧ (¬ hitF f j → heldF f G j = G j) :=
 foldN_hit (hit := fun r => (j : Int) + 1000 = at0 f.held r) (fun i F _ h => by unfold hsr; rw [if_pos h]; omega) (fun i F _ h => by unfold hsr; rw [if_neg h]) G
theorem heldT_hit (s : RState) (j k : Nat) (G : Nat → Int) : ((∃ i, i < k ∧ hitF (frA s i) j) → G j + 1 ≤ heldT s k G j) ∧ ((¬ ∃ i, i < k ∧ hitF (frA s i) j) → heldT s k G j = G j) :=
 foldN_hit (hit := fun i => hitF (frA s i) j) (fun i F _ h => (heldF_hit (frA s i) j F).1 h) (fun i F _ h => (heldF_hit (frA s i) j F).2 h) G
end RC

