/- The abstract states over which the walks go: values without addresses, rows that a call owns. Not trusted: every rule is proved. -/
import Derived.WalkKit
import Derived.Below
import Derived.OwnWalk
import Derived.Orders
import Derived.StillTail
namespace Go.Abs
open Go

inductive AV where
  | junk
  | un
  | int (k : IntKind) (n : Int)
  | bool (b : Bool)
  | str (s : ByteArray)
  | zc
  | nilp
  | sl (xs : List (List AV))
  | own (id gen len : Nat)
  | ptr (id gen i off : Nat)
  | iptr (x : List AV) (off : Nat)
  | fn (f : FuncId) (caps : List AV)
  | agg (cs : List AV)
  | tup (vs : List AV)
  deriving Inhabited

abbrev i64 (n : Int) : AV := .int .i64 n

/-- What one cell may hold. -/
def AV.leaf : AV → Bool
  | .junk | .un | .agg _ | .tup _ => false
  | _ => true

structure Row where
  gen : Nat
  elem : TypeId
  size : Nat
  xs : List (List AV)

structure Own where
  row : Row
  blk : Option Nat
  cap : Nat

mutual
def Rep (F : Nat → Prop) (w : World) : List Own → AV → Value → Prop
  | _, .junk, _ => True
  | _, .un, v => v = undef
  | _, .int k n, v => v = .int k n
  | _, .bool b, v => v = .bool b
  | _, .str s, v => v = .string s
  | _, .zc, v => ∃ a, v = .slice a 0 0
  | _, .nilp, v => v = .pointer none
  | _, .sl xs, v => ∃ a cap, v = .slice a xs.length cap ∧ xs.length ≤ cap ∧ (xs ≠ [] → ∃ b o size, a = some ⟨b, o, none⟩ ∧ F b ∧ (∀ x ∈ xs, x.length = size) ∧ RepRows F w xs b o)
  | os, .own id g n, v => ∃ o, os[id]? = some o ∧ g ≤ o.row.gen ∧ (∃ a l c, v = .slice a l c) ∧ (o.row.gen = g → n ≤ o.row.xs.length ∧ ((o.blk = none ∧ ∃ a, v = .slice a n 0) ∨ ∃ b, o.blk = some b ∧ v = .slice (some ⟨b, 0, none⟩) n o.cap))
  | os, .ptr id g i off, v => ∃ o, os[id]? = some o ∧ g ≤ o.row.gen ∧ (∃ a, v = .pointer a) ∧ (o.row.gen = g → i < o.row.xs.length ∧ off ≤ o.row.size ∧ ∃ b, o.blk = some b ∧ v = .pointer (some ⟨b, i * o.row.size + off, none⟩))
  | _, .iptr x off, v => ∃ b o, v = .pointer (some ⟨b, o + off, none⟩) ∧ F b ∧ RepCells F w x b o
  | os, .fn f caps, v => ∃ us : List Value, v = .func (.func f) #[] us.toArray ∧ RepL F w os caps us
  | os, .agg cs, v => ∃ us : List Value, v = .agg us.toArray ∧ RepL F w os cs us
  | os, .tup vs, v => ∃ us : List Value, v = .tuple us.toArray ∧ RepL F w os vs us
def RepL (F : Nat → Prop) (w : World) : List Own → List AV → List Value → Prop
  | _, [], us => us = []
  | os, x :: r, us => ∃ u us', us = u :: us' ∧ Rep F w os x u ∧ RepL F w os r us'
def RepCells (F : Nat → Prop) (w : World) : List AV → Nat → Nat → Prop
  | [], _, _ => True
  | x :: r, b, o => (∃ u, w.cell? ⟨b, o, none⟩ = some u ∧ x.leaf = true ∧ Rep F w [] x u) ∧ RepCells F w r b (o + 1)
def RepRows (F : Nat → Prop) (w : World) : List (List AV) → Nat → Nat → Prop
  | [], _, _ => True
  | x :: r, b, o => RepCells F w x b o ∧ RepRows F w r b (o + x.length)
end

/-- The row's block holds what the row says. -/
structure OwnOK (F : Nat → Prop) (w : World) (os : List Own) (o : Own) : Prop where
  pos : 0 < o.row.size
  lens : ∀ x ∈ o.row.xs, x.length = o.row.size ∧ ∀ c ∈ x, c.leaf = true
  none : o.blk = none → o.row.xs = [] ∧ o.cap = 0
  some : ∀ b, o.blk = some b → ¬ F b ∧ ∃ cur : Array Value, w.heap[b]? = some (.cells cur o.row.elem (0, 0)) ∧ cur.size = o.cap * o.row.size ∧ o.row.xs.length ≤ o.cap ∧ o.cap ≤ maxLen ∧
    ∀ i x, o.row.xs[i]? = some x → ∀ j c, x[j]? = some c → ∃ u, cur[i * o.row.size + j]? = some u ∧ Rep F w os c u

structure St where
  n : Nat
  env : Nat → AV
  st : List Row

def upd (e : Nat → AV) (d : Nat) (v : AV) : Nat → AV := fun k => if k = d then v else e k

structure Rel (F : Nat → Prop) (os : List Own) (s : St) (a : Act) (w : World) : Prop where
  st : os.map Own.row = s.st
  env : ∀ k, Rep F w os (s.env k) (a.tmps.getD k undef)
  size : a.tmps.size = s.n
  rows : ∀ (i : Nat) (o : Own), os[i]? = some o → OwnOK F w os o
  inj : ∀ (i j : Nat) (oi oj : Own) (b : Nat), os[i]? = some oi → os[j]? = some oj → oi.blk = some b → oj.blk = some b → i = j
  old : ∀ b, F b → b < w.heap.size
  defers : a.defers = []

/-- How the world may go on: what is frozen stays; what is no one's stays. -/
structure Ext (F : Nat → Prop) (os : List Own) (w : World) (F' : Nat → Prop) (os' : List Own) (w' : World) (k : Nat) : Prop where
  sys : w'.os = w.os
  tape : w'.tape = w.tape
  output : w'.output = w.output
  size : w.heap.size ≤ w'.heap.size
  fsub : ∀ b, F b → F' b
  fsame : ∀ b, F b → w'.heap[b]? = w.heap[b]?
  other : ∀ b, b < w.heap.size → ¬ F b → (∀ o : Own, o ∈ os → o.blk ≠ some b) → w'.heap[b]? = w.heap[b]? ∧ ¬ F' b ∧ ∀ o : Own, o ∈ os' → o.blk ≠ some b
  pers : ∀ (i : Nat) (o : Own), i < k → os[i]? = some o → ∃ o' : Own, os'[i]? = some o' ∧ o.row.gen ≤ o'.row.gen ∧ o'.row.size = o.row.size ∧ (o'.row.gen = o.row.gen → o'.blk = o.blk ∧ o'.cap = o.cap ∧ o.row.xs.length ≤ o'.row.xs.length)

theorem Ext.refl (F : Nat → Prop) (os : List Own) (w : World) (k : Nat) : Ext F os w F os w k :=
  ⟨rfl, rfl, rfl, Nat.le_refl _, fun _ h => h, fun _ _ => rfl, fun _ _ h1 h2 => ⟨rfl, h1, h2⟩, fun _ o _ h => ⟨o, h, Nat.le_refl _, rfl, fun _ => ⟨rfl, rfl, Nat.le_refl _⟩⟩⟩

theorem Ext.trans {F F' F'' : Nat → Prop} {os os' os'' : List Own} {w w' w'' : World} {k : Nat} (h : Ext F os w F' os' w' k) (g : Ext F' os' w' F'' os'' w'' k) : Ext F os w F'' os'' w'' k := by
  refine ⟨g.sys.trans h.sys, g.tape.trans h.tape, g.output.trans h.output, Nat.le_trans h.size g.size, fun b hb => g.fsub b (h.fsub b hb),
    fun b hb => (g.fsame b (h.fsub b hb)).trans (h.fsame b hb), fun b hb h1 h2 => ?_, fun i o hi ho => ?_⟩
  · obtain ⟨e1, n1, m1⟩ := h.other b hb h1 h2
    obtain ⟨e2, n2, m2⟩ := g.other b (Nat.lt_of_lt_of_le hb h.size) n1 m1
    exact ⟨e2.trans e1, n2, m2⟩
  · obtain ⟨o', ho', l1, s1, p1⟩ := h.pers i o hi ho
    obtain ⟨o'', ho'', l2, s2, p2⟩ := g.pers i o' hi ho'
    refine ⟨o'', ho'', Nat.le_trans l1 l2, s2.trans s1, fun e => ?_⟩
    have e1 : o'.row.gen = o.row.gen := by omega
    have e2 : o''.row.gen = o'.row.gen := by omega
    obtain ⟨a1, a2, a3⟩ := p1 e1
    obtain ⟨b1, b2, b3⟩ := p2 e2
    exact ⟨b1.trans a1, b2.trans a2, Nat.le_trans a3 b3⟩

/-! ### What is represented stays represented -/

mutual
theorem rep_mono {F F' : Nat → Prop} {w w' : World} (hF : ∀ b, F b → F' b) (hw : ∀ b, F b → w'.heap[b]? = w.heap[b]?) :
    ∀ (os os' : List Own) (_ : ∀ (i : Nat) (o : Own), os[i]? = some o → ∃ o' : Own, os'[i]? = some o' ∧ o.row.gen ≤ o'.row.gen ∧ o'.row.size = o.row.size ∧ (o'.row.gen = o.row.gen → o'.blk = o.blk ∧ o'.cap = o.cap ∧ o.row.xs.length ≤ o'.row.xs.length)) (x : AV) (v : Value), Rep F w os x v → Rep F' w' os' x v
  | _, _, _, .junk, _, _ => by simp [Rep]
  | _, _, _, .un, _, h => by simpa [Rep] using h
  | _, _, _, .int _ _, _, h => by simpa [Rep] using h
  | _, _, _, .bool _, _, h => by simpa [Rep] using h
  | _, _, _, .str _, _, h => by simpa [Rep] using h
  | _, _, _, .zc, _, h => by simpa [Rep] using h
  | _, _, _, .nilp, _, h => by simpa [Rep] using h
  | _, _, _, .sl xs, v, h => by
    simp only [Rep] at h ⊢
    obtain ⟨a, cap, hv, hcap, h2⟩ := h
    refine ⟨a, cap, hv, hcap, fun hne => ?_⟩
    obtain ⟨b, o, size, ha, hb, hs, hr⟩ := h2 hne
    exact ⟨b, o, size, ha, hF b hb, hs, repRows_mono hF hw xs b o hb hr⟩
  | os, os', hos, .own id g n, v, h => by
    simp only [Rep] at h ⊢
    obtain ⟨o, ho, hle, hsh, h1⟩ := h
    obtain ⟨o', ho', hl', hs', hp'⟩ := hos id o ho
    refine ⟨o', ho', by omega, hsh, fun e => ?_⟩
    obtain ⟨e1, e2, e3⟩ := hp' (by omega)
    obtain ⟨h2, h3⟩ := h1 (by omega)
    refine ⟨by omega, ?_⟩
    rw [e1, e2]; exact h3
  | os, os', hos, .ptr id g i off, v, h => by
    simp only [Rep] at h ⊢
    obtain ⟨o, ho, hle, hsh, h1⟩ := h
    obtain ⟨o', ho', hl', hs', hp'⟩ := hos id o ho
    refine ⟨o', ho', by omega, hsh, fun e => ?_⟩
    obtain ⟨e1, e2, e3⟩ := hp' (by omega)
    obtain ⟨h2, h3, h4⟩ := h1 (by omega)
    refine ⟨by omega, by omega, ?_⟩
    rw [e1, hs']; exact h4
  | _, _, _, .iptr x off, v, h => by
    simp only [Rep] at h ⊢
    obtain ⟨b, o, hv, hb, hr⟩ := h
    exact ⟨b, o, hv, hF b hb, repCells_mono hF hw x b o hb hr⟩
  | os, os', hos, .fn f caps, v, h => by
    simp only [Rep] at h ⊢
    obtain ⟨us, hv, hr⟩ := h
    exact ⟨us, hv, repL_mono hF hw os os' hos caps us hr⟩
  | os, os', hos, .agg cs, v, h => by
    simp only [Rep] at h ⊢
    obtain ⟨us, hv, hr⟩ := h
    exact ⟨us, hv, repL_mono hF hw os os' hos cs us hr⟩
  | os, os', hos, .tup cs, v, h => by
    simp only [Rep] at h ⊢
    obtain ⟨us, hv, hr⟩ := h
    exact ⟨us, hv, repL_mono hF hw os os' hos cs us hr⟩
theorem repL_mono {F F' : Nat → Prop} {w w' : World} (hF : ∀ b, F b → F' b) (hw : ∀ b, F b → w'.heap[b]? = w.heap[b]?) :
    ∀ (os os' : List Own) (_ : ∀ (i : Nat) (o : Own), os[i]? = some o → ∃ o' : Own, os'[i]? = some o' ∧ o.row.gen ≤ o'.row.gen ∧ o'.row.size = o.row.size ∧ (o'.row.gen = o.row.gen → o'.blk = o.blk ∧ o'.cap = o.cap ∧ o.row.xs.length ≤ o'.row.xs.length)) (xs : List AV) (us : List Value), RepL F w os xs us → RepL F' w' os' xs us
  | _, _, _, [], _, h => by simpa [RepL] using h
  | os, os', hos, x :: r, us, h => by
    simp only [RepL] at h ⊢
    obtain ⟨u, us', hu, h1, h2⟩ := h
    exact ⟨u, us', hu, rep_mono hF hw os os' hos x u h1, repL_mono hF hw os os' hos r us' h2⟩
theorem repCells_mono {F F' : Nat → Prop} {w w' : World} (hF : ∀ b, F b → F' b) (hw : ∀ b, F b → w'.heap[b]? = w.heap[b]?) :
    ∀ (xs : List AV) (b o : Nat), F b → RepCells F w xs b o → RepCells F' w' xs b o
  | [], _, _, _, _ => by simp [RepCells]
  | x :: r, b, o, hb, h => by
    simp only [RepCells] at h ⊢
    obtain ⟨⟨u, hu, hl, h1⟩, h2⟩ := h
    refine ⟨⟨u, ?_, hl, rep_mono hF hw [] [] (by simp) x u h1⟩, repCells_mono hF hw r b (o + 1) hb h2⟩
    rw [← hu]; exact World.cell?_of_block (hw b hb)
theorem repRows_mono {F F' : Nat → Prop} {w w' : World} (hF : ∀ b, F b → F' b) (hw : ∀ b, F b → w'.heap[b]? = w.heap[b]?) :
    ∀ (xs : List (List AV)) (b o : Nat), F b → RepRows F w xs b o → RepRows F' w' xs b o
  | [], _, _, _, _ => by simp [RepRows]
  | x :: r, b, o, hb, h => by
    simp only [RepRows] at h ⊢
    exact ⟨repCells_mono hF hw x b o hb h.1, repRows_mono hF hw r b (o + x.length) hb h.2⟩
end
end Go.Abs
