/- The reader of a code: what it picks. -/
import Derived.Test.YtgpjhgoobijdjaaHNE
namespace RC
open Go

/-- The bytes that are read. -/
structure Bk (b : List Int) : Prop where
  u8 : ∀ x ∈ b, U8 x
  len : b.length ≤ 2000
/-- The position is small. -/
def At (p K : Int) : Prop := 0 ≤ p ∧ p ≤ K

theorem newReader_tot {code : List Int} (h8 : ∀ x ∈ code, U8 x) (hl : code.length ≤ 1048576) : Tot (spec_newReader code) fun q => Bk q.1 ∧ q.2 = 0 := by
  unfold spec_newReader
  refine Tot.bind (R := fun b => Bk b) (Tot.iteD (fun h => ?_) fun h => ?_) fun b hb => Tot.some ⟨hb, rfl⟩
  · rw [len_def] at h
    have e : Sh.sl code 0 2000 = some (code.take 2000) := by
      unfold Sh.sl
      rw [if_pos ⟨by decide, by decide, by omega⟩]; rfl
    exact Tot.bindE e (Tot.some ⟨fun x hx => h8 x (List.mem_of_mem_take hx), by simp; omega⟩)
  · rw [len_def] at h
    exact Tot.some ⟨h8, by omega⟩

theorem tmod_pos {a n : Int} (ha : 0 ≤ a) (hn : 1 ≤ n) : 0 ≤ a.tmod n ∧ a.tmod n < n ∧ a.tmod n ≤ a := by
  rw [Int.tmod_eq_emod_of_nonneg ha]
  refine ⟨Int.emod_nonneg _ (by omega), Int.emod_lt_of_pos _ (by omega), ?_⟩
  have := Int.mul_ediv_add_emod a n
  have h2 : 0 ≤ n * (a / n) := Int.mul_nonneg (by omega) (Int.ediv_nonneg ha (by omega))
  omega
theorem tdiv_pos {a n : Int} (ha : 0 ≤ a) (hn : 1 ≤ n) : 0 ≤ a.tdiv n ∧ a.tdiv n ≤ a := by
  rw [Int.tdiv_eq_ediv_of_nonneg ha]
  exact ⟨Int.ediv_nonneg ha (by omega), Int.ediv_le_self _ ha⟩
theorem rem_ok {a n : Int} (hn : n ≠ 0) : Sh.rem a n = some (a.tmod n) := by unfold Sh.rem; rw [if_neg hn]
theorem quo_ok {a n : Int} (hn : n ≠ 0) : Sh.quo a n = some (Sh.w (a.tdiv n)) := by unfold Sh.quo; rw [if_neg hn]

/-- What is picked: below n, if that is not below 1. -/
structure Pk (n p : Int) (q : Int × Int) : Prop where
  pos : q.2 = p + 1
  nn : 0 ≤ q.1
  lt : 1 ≤ n → q.1 < n
  zero : n < 1 → q.1 = 0

theorem pick_tot {b : List Int} (B : Bk b) {p n : Int} (hp : At p 1000000) : Tot (spec_reader_pick b p n) (Pk n p) := by
  obtain ⟨p0, p1⟩ := hp
  have hlen := B.len
  have ew : Sh.w (p + 1) = p + 1 := w_id (by omega) (by omega)
  have ew2 : Sh.w (p + 1 - 1) = p := by rw [w_id (by omega) (by omega)]; omega
  unfold spec_reader_pick
  rw [ew, ew2, len_def]
  refine Tot.bind (R := fun t => t = true ↔ n < 1 ∨ b.length = 0) (Tot.iteD (fun h => Tot.some (by simp [h])) fun h => Tot.some (by simp [h])) fun t ht => ?_
  refine Tot.ite (fun h => ?_) fun h => ?_
  · refine Tot.some ⟨rfl, by show (0 : Int) ≤ 0; decide, fun h1 => ?_, fun _ => rfl⟩
    show (0 : Int) < n
    omega
  · have hn : ¬ (n < 1 ∨ b.length = 0) := fun h1 => by rw [ht.2 h1] at h; cases h
    have hn1 : 1 ≤ n := by omega
    have hb1 : 1 ≤ b.length := by omega
    refine Tot.iteD (fun h1 => ?_) fun h1 => ?_
    · refine Tot.get p0 h1 fun c _ hc => ?_
      obtain ⟨c0, c1⟩ := B.u8 c hc
      rw [wk_id (by omega) (by omega)]
      obtain ⟨m0, m1, _⟩ := tmod_pos c0 hn1
      exact Tot.bindE (rem_ok (by omega)) (Tot.some ⟨rfl, m0, fun _ => m1, fun h => absurd h (by omega)⟩)
    · have k1 : (1 : Int) ≤ b.length := by omega
      obtain ⟨a0, a1, _⟩ := tmod_pos p0 k1
      have e7 : Sh.w (p * 7) = p * 7 := w_id (by omega) (by omega)
      have e73 : Sh.w (p * 7 + 3) = p * 7 + 3 := w_id (by omega) (by omega)
      obtain ⟨d0, d1, _⟩ := tmod_pos (a := p * 7 + 3) (by omega) k1
      obtain ⟨f0, f1⟩ := tdiv_pos p0 k1
      rw [e7, e73]
      refine Tot.bindE (rem_ok (by omega)) ?_
      refine Tot.get a0 a1 fun c _ hc => ?_
      obtain ⟨c0, c1⟩ := B.u8 c hc
      refine Tot.bindE (rem_ok (by omega)) ?_
      refine Tot.get d0 d1 fun c' _ hc' => ?_
      obtain ⟨c0', c1'⟩ := B.u8 c' hc'
      refine Tot.bindE (quo_ok (by omega)) ?_
      rw [wk_id (n := c) (by omega) (by omega), wk_id (n := c') (by omega) (by omega), w_id (n := p.tdiv b.length) (by omega) (by omega), w_id (n := c * 131) (by omega) (by omega), w_id (n := c' * 1117) (by omega) (by omega),
        w_id (n := c * 131 + c' * 1117) (by omega) (by omega), w_id (n := p * 29) (by omega) (by omega), w_id (n := c * 131 + c' * 1117 + p * 29) (by omega) (by omega), w_id (n := p.tdiv b.length * 53) (by omega) (by omega),
        w_id (n := c * 131 + c' * 1117 + p * 29 + p.tdiv b.length * 53) (by omega) (by omega)]
      obtain ⟨x, hx⟩ : ∃ x, x = c * 131 + c' * 1117 + p * 29 + p.tdiv b.length * 53 := ⟨_, rfl⟩
      rw [← hx]
      have x0 : 0 ≤ x := by omega
      have x1 : x ≤ 1000000000000 := by omega
      obtain ⟨y0, y1⟩ := tdiv_pos x0 (by decide : (1 : Int) ≤ 64)
      rw [w_id (n := x.tdiv 64) (by omega) (by omega)]
      obtain ⟨z0, z1⟩ := xor_nn x0 (by omega) y0 (by omega)
      obtain ⟨m0, m1, _⟩ := tmod_pos z0 hn1
      exact Tot.bindE (rem_ok (by omega)) (Tot.some ⟨rfl, m0, fun _ => m1, fun h => absurd h (by omega)⟩)

/-- One of some. -/
structure On (l : List Int) (p : Int) (q : Int × Int) : Prop where
  pos : q.2 = p + 1
  mem : q.1 ∈ l
theorem one_tot {b : List Int} (B : Bk b) {p : Int} {l : List Int} (hp : At p 1000000) (hl : 1 ≤ l.length) (hl2 : l.length ≤ 1000) : Tot (spec_reader_one b p l) (On l p) := by
  unfold spec_reader_one
  rw [len_def]
  refine Tot.bind (pick_tot B hp) fun q ⟨h1, h2, h3, _⟩ => ?_
  exact Tot.get h2 (h3 (by omega)) fun x _ hx => Tot.some ⟨h1, hx⟩

/-! ### Heaps that are drawn are small -/

def I40 (n : Int) : Prop := -1099511627776 ≤ n ∧ n ≤ 1099511627776
structure SmC (B : Int) (c : Cell) : Prop where
  fl : c.fields.length ≤ 3
  fi : ∀ x ∈ c.fields, I40 x
  lo : -1000000 - B ≤ c.count
  hi : c.count ≤ 1000000 + B
  tag : I40 c.tag
structure Sm (n : Nat) (B : Int) (h : List Cell) : Prop where
  len : h.length ≤ n
  cells : ∀ c ∈ h, SmC B c

theorem SmC.up {B B' : Int} {c : Cell} (h : SmC B c) (hB : B ≤ B') : SmC B' c := ⟨h.fl, h.fi, by have := h.lo; omega, by have := h.hi; omega, h.tag⟩
theorem Sm.up {n n' : Nat} {B B' : Int} {h : List Cell} (S : Sm n B h) (hn : n ≤ n') (hB : B ≤ B') : Sm n' B' h := ⟨by have := S.len; omega, fun c hc => (S.cells c hc).up hB⟩
theorem Sm.fsum {n : Nat} {B : Int} {h : List Cell} (S : Sm n B h) : fsum h ≤ 3 * h.length := by
  have hc := S.cells
  clear S
  induction h with
  | nil => simp [RC.fsum]
  | cons c h ih =>
    have h1 := ih fun d hd => hc d (List.mem_cons_of_mem _ hd)
    have h2 := (hc c (List.mem_cons_self ..)).fl
    simp only [RC.fsum, List.map_cons, List.sum_cons, List.length_cons] at h1 ⊢
    omega
theorem Sm.hp {n : Nat} {B : Int} {h : List Cell} (S : Sm n B h) (hn : n ≤ 10000) (hB : B ≤ 1000000000) : Hp h := by
  refine ⟨?_, fun c hc => ?_⟩
  · have := S.fsum; have := S.len; unfold hsize; omega
  · obtain ⟨a, b, l, u, t⟩ := S.cells c hc
    exact ⟨⟨by omega, by omega⟩, ⟨by have := t.1; omega, by have := t.2; omega⟩, fun x hx => ⟨by have := (b x hx).1; omega, by have := (b x hx).2; omega⟩, by omega⟩
theorem Sm.size {n : Nat} {B : Int} {h : List Cell} (S : Sm n B h) : hsize h ≤ 4 * n := by
  have := S.fsum; have := S.len; unfold hsize; omega
theorem Sm.set {n : Nat} {B : Int} {h : List Cell} (S : Sm n B h) {j : Nat} {c : Cell} (hc : SmC B c) : Sm n B (h.set j c) :=
  ⟨by rw [List.length_set]; exact S.len, fun d hd => by
    rcases List.mem_or_eq_of_mem_set hd with h1 | h1
    · exact S.cells d h1
    · rw [h1]; exact hc⟩
theorem Sm.app {n : Nat} {B : Int} {h : List Cell} (S : Sm n B h) {c : Cell} (hc : SmC B c) : Sm (n + 1) B (h ++ [c]) :=
  ⟨by have := S.len; simp; omega, fun d hd => by
    rcases List.mem_append.1 hd with h1 | h1
    · exact S.cells d h1
    · rw [List.mem_singleton] at h1; rw [h1]; exact hc⟩
theorem VH.sm {h : List Cell} (V : VH h) {n : Nat} (hn : h.length ≤ n) (hn2 : n ≤ 10000) : Sm n 0 h := by
  refine ⟨hn, fun c hc => ?_⟩
  obtain ⟨a1, a2, a3, a4, a5⟩ := (cellS_iff _ _).1 (V.cells c hc)
  refine ⟨by omega, fun x hx => ?_, by omega, by omega, ?_⟩
  · by_cases h1 : c.count < 1
    · have := (a4 h1).2.1 x hx; exact ⟨by omega, by omega⟩
    · have h2 := (a5 (by omega)).1 x hx
      by_cases hp : 1000 ≤ x
      · rw [wordW_ptr hp] at h2
        have := ct_lt (h := h) (j := (x - 1000).toNat) (by have : 0 < ct h (x - 1000).toNat := (by simpa using h2); omega)
        exact ⟨by omega, by omega⟩
      · rw [wordW_int hp] at h2
        have : -999 ≤ x := (by simpa using h2)
        exact ⟨by omega, by omega⟩
  · by_cases h1 : c.count < 1
    · have := (a4 h1).1; exact ⟨by omega, by omega⟩
    · have h2 := (a5 (by omega)).2; exact ⟨by omega, by omega⟩
end RC
