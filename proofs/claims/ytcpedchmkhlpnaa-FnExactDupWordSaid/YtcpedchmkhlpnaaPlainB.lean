/- Plain functions that give something: a calculus. -/
import Derived.Test.YtcpedchmkhlpnaaPlainA
namespace RC
open Go

/-- It gives something, of which this holds. -/
def Tot {α : Type} (x : Option α) (Q : α → Prop) : Prop := ∃ v, x = some v ∧ Q v
theorem Tot.some {α : Type} {v : α} {Q : α → Prop} (h : Q v) : Tot (some v) Q := ⟨v, rfl, h⟩
theorem Tot.of {α : Type} {x : Option α} {v : α} {Q : α → Prop} (e : x = Option.some v) (h : Q v) : Tot x Q := ⟨v, e, h⟩
theorem Tot.mono {α : Type} {x : Option α} {Q R : α → Prop} (h : Tot x Q) (g : ∀ v, Q v → R v) : Tot x R :=
  let ⟨v, e, q⟩ := h; ⟨v, e, g v q⟩
theorem Tot.bind {α β : Type} {x : Option α} {f : α → Option β} {R : α → Prop} {Q : β → Prop} (h : Tot x R) (k : ∀ v, R v → Tot (f v) Q) : Tot (Option.bind x f) Q := by
  obtain ⟨v, rfl, hv⟩ := h; exact k v hv
theorem Tot.bindE {α β : Type} {x : Option α} {f : α → Option β} {v : α} {Q : β → Prop} (h : x = Option.some v) (k : Tot (f v) Q) : Tot (Option.bind x f) Q := by
  subst h; exact k
theorem Tot.ite {α : Type} {b : Bool} {x y : Option α} {Q : α → Prop} (h1 : b = true → Tot x Q) (h2 : b = false → Tot y Q) : Tot (if b = true then x else y) Q := by
  cases b
  · exact h2 rfl
  · exact h1 rfl
theorem Tot.iteD {α : Type} {p : Prop} [Decidable p] {x y : Option α} {Q : α → Prop} (h1 : p → Tot x Q) (h2 : ¬ p → Tot y Q) : Tot (if decide p = true then x else y) Q := by
  by_cases h : p
  · rw [if_pos (by simpa using h)]; exact h1 h
  · rw [if_neg (by simpa using h)]; exact h2 h
theorem Tot.cont {ρ σ β : Type} {o : Option (ρ ⊕ σ)} {g : ρ → β} {f : σ → Option β} {R : ρ → Prop} {S : σ → Prop} {Q : β → Prop} (h : Tot o fun v => match v with | .inl r => R r | .inr s => S s) (h1 : ∀ r, R r → Q (g r)) (h2 : ∀ s, S s → Tot (f s) Q) : Tot (Sh.cont o g f) Q := by
  obtain ⟨v, rfl, hv⟩ := h
  cases v with
  | inl r => exact ⟨g r, rfl, h1 r hv⟩
  | inr s => exact h2 s hv

theorem Tot.get {α β : Type} {l : List α} {j : Int} {f : α → Option β} {Q : β → Prop} (h0 : 0 ≤ j) (h1 : j < l.length) (k : ∀ x, l[j.toNat]? = Option.some x → x ∈ l → Tot (f x) Q) : Tot (Option.bind (Sh.get l j) f) Q := by
  obtain ⟨x, e, hx⟩ := get_pos h0 h1
  exact Tot.bindE e (k x hx (List.mem_of_getElem? hx))
theorem Tot.app {α β : Type} {l m : List α} {b : Nat} {f : List α → Option β} {Q : β → Prop} (h : (l.length + m.length) * b ≤ 140737488355328) (h2 : l.length + m.length ≤ 9223372036854775807) (k : Tot (f (l ++ m)) Q) : Tot (Option.bind (Sh.app l m b) f) Q := Tot.bindE (app_ok l m b h h2) k

theorem wk_id {n : Int} (h1 : -9223372036854775808 ≤ n) (h2 : n ≤ 9223372036854775807) : Sh.wk .i64 n = n := Abs.wrap_i64 h1 h2

/-- What is xored of what is not negative is not negative. -/
theorem xor_nn {a b : Int} (ha : 0 ≤ a) (ha' : a < 4611686018427387904) (hb : 0 ≤ b) (hb' : b < 4611686018427387904) : 0 ≤ Sh.xor a b ∧ Sh.xor a b < 4611686018427387904 := by
  obtain ⟨x, rfl⟩ := Int.eq_ofNat_of_zero_le ha
  obtain ⟨y, rfl⟩ := Int.eq_ofNat_of_zero_le hb
  have e : Sh.xor (x : Int) (y : Int) = ((x ^^^ y : Nat) : Int) := by
    unfold Sh.xor
    have h1 : (BitVec.ofInt 64 (x : Int) ^^^ BitVec.ofInt 64 (y : Int)).toNat = x ^^^ y := by
      rw [BitVec.toNat_xor]
      simp only [BitVec.ofInt_natCast, BitVec.toNat_ofNat]
      rw [Nat.mod_eq_of_lt (by omega), Nat.mod_eq_of_lt (by omega)]
    rw [h1]
    have h2 : x ^^^ y < 2 ^ 62 := Nat.xor_lt_two_pow (by omega) (by omega)
    exact Abs.wrap_i64 (by omega) (by omega)
  have h2 : x ^^^ y < 2 ^ 62 := Nat.xor_lt_two_pow (by omega) (by omega)
  rw [e]; omega
end RC
