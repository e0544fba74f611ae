/- The abstract states over which the walks go: values without addresses, rows that a call owns. Not trusted: every rule is proved. -/
import Derived.WalkKit
import Derived.Below
import Derived.OwnWalk
import Derived.Orders
import Derived.StillTail

namespace Go.Abs
open Go

inductive AV where
  | junk
  | un
  | int (k : IntKind) (n : Int)
  | bool (b : Bool)
  | str (s : ByteArray)
  | zc
  | nilp
  | nilf
  | sl (xs : List (List AV))
  | own (id gen len : Nat)
  | ptr (id gen i off : Nat)
  | iptr (x : List AV) (off : Nat)
  | fn (f : FuncId) (caps : List AV)
  | agg (cs : List AV)
  | tup (vs : List AV)
  /-- A slice that the row owns in which it lies: its elements' type and size, its elements. -/
  | dv (el size : Nat) (xs : List (List AV))
  deriving Inhabited

abbrev i64 (n : Int) : AV := .int .i64 n

/-- What one cell may hold. -/
def AV.leaf : AV → Bool
  | .junk | .un | .agg _ | .tup _ | .dv .. => false
  | _ => true

/-- What a cell of a row may hold. -/
def AV.kept : AV → Bool
  | .dv .. => true
  | c => c.leaf

theorem AV.kept_leaf {c : AV} (h : c.leaf = true) : c.kept = true := by cases c <;> simp_all [AV.kept, AV.leaf]

structure Row where
  gen : Nat
  elem : TypeId
  size : Nat
  xs : List (List AV)

structure Own where
  row : Row
  blk : Option Nat
  cap : Nat
  more : Nat → Prop

/-- The blocks that are the row's: its own, and those that lie under its cells. -/
def Own.owns (o : Own) (b : Nat) : Prop := o.blk = some b ∨ o.more b

def none' : Nat → Prop := fun _ => False

mutual
def Rep (F : Nat → Prop) (w : World) : List Own → AV → Value → Prop
  | _, .junk, _ => True
  | _, .un, v => v = undef
  | _, .int k n, v => v = .int k n
  | _, .bool b, v => v = .bool b
  | _, .str s, v => v = .string s
  | _, .zc, v => ∃ a, v = .slice a 0 0
  | _, .nilp, v => v = .pointer none
  | _, .nilf, v => v = .nilFunc
  | _, .sl xs, v => ∃ a cap, v = .slice a xs.length cap ∧ xs.length ≤ cap ∧ (xs ≠ [] → ∃ b o size, a = some ⟨b, o, none⟩ ∧ F b ∧ (∀ x ∈ xs, x.length = size) ∧ RepRows F w xs b o)
  | os, .own id g n, v => ∃ o, os[id]? = some o ∧ g ≤ o.row.gen ∧ (∃ a l c, v = .slice a l c) ∧ (o.row.gen = g → n ≤ o.row.xs.length ∧ ((o.blk = none ∧ ∃ a, v = .slice a n 0) ∨ ∃ b, o.blk = some b ∧ v = .slice (some ⟨b, 0, none⟩) n o.cap))
  | os, .ptr id g i off, v => ∃ o, os[id]? = some o ∧ g ≤ o.row.gen ∧ (∃ a, v = .pointer a) ∧ (o.row.gen = g → i < o.row.xs.length ∧ off ≤ o.row.size ∧ ∃ b, o.blk = some b ∧ v = .pointer (some ⟨b, i * o.row.size + off, none⟩))
  | _, .iptr x off, v => ∃ b o, v = .pointer (some ⟨b, o + off, none⟩) ∧ F b ∧ RepCells F w x b o
  | os, .fn f caps, v => ∃ us : List Value, v = .func (.func f) #[] us.toArray ∧ RepL F w os caps us
  | os, .agg cs, v => ∃ us : List Value, v = .agg us.toArray ∧ RepL F w os cs us
  | os, .tup vs, v => ∃ us : List Value, v = .tuple us.toArray ∧ RepL F w os vs us
  | _, .dv _ _ _, v => ∃ a l c, v = .slice a l c
def RepL (F : Nat → Prop) (w : World) : List Own → List AV → List Value → Prop
  | _, [], us => us = []
  | os, x :: r, us => ∃ u us', us = u :: us' ∧ Rep F w os x u ∧ RepL F w os r us'
def RepCells (F : Nat → Prop) (w : World) : List AV → Nat → Nat → Prop
  | [], _, _ => True
  | x :: r, b, o => (∃ u, w.cell? ⟨b, o, none⟩ = some u ∧ x.leaf = true ∧ Rep F w [] x u) ∧ RepCells F w r b (o + 1)
def RepRows (F : Nat → Prop) (w : World) : List (List AV) → Nat → Nat → Prop
  | [], _, _ => True
  | x :: r, b, o => RepCells F w x b o ∧ RepRows F w r b (o + x.length)
end

mutual
/-- A slice that lies in such a cell: the blocks of S under it, each once. -/
def RepD (S : Nat → Prop) (w : World) : AV → Value → Prop
  | .dv el size xs, v => 0 < size ∧ ((xs = [] ∧ ∃ a, v = .slice a 0 0) ∨ ∃ b cap cur, v = .slice (some ⟨b, 0, none⟩) xs.length cap ∧ xs.length ≤ cap ∧ cap ≤ maxLen ∧ S b ∧
      w.heap[b]? = some (.cells cur el (0, 0)) ∧ cur.size = cap * size ∧ (∀ x ∈ xs, x.length = size) ∧ RepDR (fun c => S c ∧ c ≠ b) w xs cur 0)
  | .int k n, v => v = .int k n
  | .bool b, v => v = .bool b
  | .str s, v => v = .string s
  | .zc, v => ∃ a, v = .slice a 0 0
  | .nilp, v => v = .pointer none
  | .nilf, v => v = .nilFunc
  | _, _ => False
def RepDR (S : Nat → Prop) (w : World) : List (List AV) → Array Value → Nat → Prop
  | [], _, _ => True
  | x :: r, cur, o => ∃ S1 S2 : Nat → Prop, (∀ b, S1 b → S b) ∧ (∀ b, S2 b → S b) ∧ (∀ b, S1 b → ¬ S2 b) ∧ RepDC S1 w x cur o ∧ RepDR S2 w r cur (o + x.length)
def RepDC (S : Nat → Prop) (w : World) : List AV → Array Value → Nat → Prop
  | [], _, _ => True
  | x :: r, cur, o => ∃ S1 S2 : Nat → Prop, (∀ b, S1 b → S b) ∧ (∀ b, S2 b → S b) ∧ (∀ b, S1 b → ¬ S2 b) ∧ (∃ u, cur[o]? = some u ∧ RepD S1 w x u) ∧ RepDC S2 w r cur (o + 1)
end

/-- What lies under the row's cells. -/
def DeepOK (w : World) (o : Own) : Prop :=
  ∃ D : Nat → Nat → Nat → Prop, (∀ i j b, D i j b → o.more b) ∧ (∀ i j i' j' b, D i j b → D i' j' b → i = i' ∧ j = j') ∧
    ∀ b, o.blk = some b → ∀ cur el l, w.heap[b]? = some (.cells cur el l) → ∀ (i : Nat) x (j : Nat) e s ys, o.row.xs[i]? = some x → x[j]? = some (.dv e s ys) →
      ∃ u, cur[i * o.row.size + j]? = some u ∧ RepD (D i j) w (.dv e s ys) u

/-- The row's block holds what the row says. -/
structure OwnOK (F : Nat → Prop) (w : World) (os : List Own) (o : Own) : Prop where
  pos : 0 < o.row.size
  lens : ∀ x ∈ o.row.xs, x.length = o.row.size ∧ ∀ c ∈ x, c.kept = true
  none : o.blk = none → o.row.xs = [] ∧ o.cap = 0
  some : ∀ b, o.blk = some b → ¬ F b ∧ ∃ cur : Array Value, w.heap[b]? = some (.cells cur o.row.elem (0, 0)) ∧ cur.size = o.cap * o.row.size ∧ o.row.xs.length ≤ o.cap ∧ o.cap ≤ maxLen ∧
    ∀ i x, o.row.xs[i]? = some x → ∀ j c, x[j]? = some c → ∃ u, cur[i * o.row.size + j]? = some u ∧ Rep F w os c u
  mo : ∀ b, o.more b → ¬ F b ∧ b < w.heap.size ∧ o.blk ≠ Option.some b
  deep : DeepOK w o

structure St where
  n : Nat
  env : Nat → AV
  st : List Row

def upd (e : Nat → AV) (d : Nat) (v : AV) : Nat → AV := fun k => if k = d then v else e k

structure Rel (F : Nat → Prop) (os : List Own) (s : St) (a : Act) (w : World) : Prop where
  st : os.map Own.row = s.st
  env : ∀ k, Rep F w os (s.env k) (a.tmps.getD k undef)
  size : a.tmps.size = s.n
  rows : ∀ (i : Nat) (o : Own), os[i]? = some o → OwnOK F w os o
  inj : ∀ (i j : Nat) (oi oj : Own) (b : Nat), os[i]? = some oi → os[j]? = some oj → oi.owns b → oj.owns b → i = j
  old : ∀ b, F b → b < w.heap.size
  defers : a.defers = []

/-- How the world may go on: what is frozen stays; what is no one's stays. -/
structure Ext (F : Nat → Prop) (os : List Own) (w : World) (F' : Nat → Prop) (os' : List Own) (w' : World) (k : Nat) : Prop where
  sys : w'.os = w.os
  tape : w'.tape = w.tape
  output : w'.output = w.output
  size : w.heap.size ≤ w'.heap.size
  fsub : ∀ b, F b → F' b
  fsame : ∀ b, F b → w'.heap[b]? = w.heap[b]?
  other : ∀ b, b < w.heap.size → ¬ F b → (∀ o : Own, o ∈ os → ¬ o.owns b) → w'.heap[b]? = w.heap[b]? ∧ ¬ F' b ∧ ∀ o : Own, o ∈ os' → ¬ o.owns b
  pers : ∀ (i : Nat) (o : Own), i < k → os[i]? = some o → ∃ o' : Own, os'[i]? = some o' ∧ o.row.gen ≤ o'.row.gen ∧ o'.row.size = o.row.size ∧ (o'.row.gen = o.row.gen → o'.blk = o.blk ∧ o'.cap = o.cap ∧ o'.row.xs.length = o.row.xs.length)

theorem Ext.refl (F : Nat → Prop) (os : List Own) (w : World) (k : Nat) : Ext F os w F os w k :=
  ⟨rfl, rfl, rfl, Nat.le_refl _, fun _ h => h, fun _ _ => rfl, fun _ _ h1 h2 => ⟨rfl, h1, h2⟩, fun _ o _ h => ⟨o, h, Nat.le_refl _, rfl, fun _ => ⟨rfl, rfl, rfl⟩⟩⟩

theorem Ext.trans {F F' F'' : Nat → Prop} {os os' os'' : List Own} {w w' w'' : World} {k : Nat} (h : Ext F os w F' os' w' k) (g : Ext F' os' w' F'' os'' w'' k) : Ext F os w F'' os'' w'' k := by
  refine ⟨g.sys.trans h.sys, g.tape.trans h.tape, g.output.trans h.output, Nat.le_trans h.size g.size, fun b hb => g.fsub b (h.fsub b hb),
    fun b hb => (g.fsame b (h.fsub b hb)).trans (h.fsame b hb), fun b hb h1 h2 => ?_, fun i o hi ho => ?_⟩
  · obtain ⟨e1, n1, m1⟩ := h.other b hb h1 h2
    obtain ⟨e2, n2, m2⟩ := g.other b (Nat.lt_of_lt_of_le hb h.size) n1 m1
    exact ⟨e2.trans e1, n2, m2⟩
  · obtain ⟨o', ho', l1, s1, p1⟩ := h.pers i o hi ho
    obtain ⟨o'', ho'', l2, s2, p2⟩ := g.pers i o' hi ho'
    refine ⟨o'', ho'', Nat.le_trans l1 l2, s2.trans s1, fun e => ?_⟩
    have e1 : o'.row.gen = o.row.gen := by omega
    have e2 : o''.row.gen = o'.row.gen := by omega
    obtain ⟨a1, a2, a3⟩ := p1 e1
    obtain ⟨b1, b2, b3⟩ := p2 e2
    exact ⟨b1.trans a1, b2.trans a2, b3.trans a3⟩

/-! ### What is represented stays represented -/

mutual
theorem rep_mono {F F' : Nat → Prop} {w w' : World} (hF : ∀ b, F b → F' b) (hw : ∀ b, F b → w'.heap[b]? = w.heap[b]?) :
    ∀ (os os' : List Own) (_ : ∀ (i : Nat) (o : Own), os[i]? = some o → ∃ o' : Own, os'[i]? = some o' ∧ o.row.gen ≤ o'.row.gen ∧ o'.row.size = o.row.size ∧ (o'.row.gen = o.row.gen → o'.blk = o.blk ∧ o'.cap = o.cap ∧ o'.row.xs.length = o.row.xs.length)) (x : AV) (v : Value), Rep F w os x v → Rep F' w' os' x v
  | _, _, _, .junk, _, _ => by simp [Rep]
  | _, _, _, .un, _, h => by simpa [Rep] using h
  | _, _, _, .int _ _, _, h => by simpa [Rep] using h
  | _, _, _, .bool _, _, h => by simpa [Rep] using h
  | _, _, _, .str _, _, h => by simpa [Rep] using h
  | _, _, _, .zc, _, h => by simpa [Rep] using h
  | _, _, _, .nilp, _, h => by simpa [Rep] using h
  | _, _, _, .nilf, _, h => by simpa [Rep] using h
  | _, _, _, .dv .., _, h => by simpa [Rep] using h
  | _, _, _, .sl xs, v, h => by
    simp only [Rep] at h ⊢
    obtain ⟨a, cap, hv, hcap, h2⟩ := h
    refine ⟨a, cap, hv, hcap, fun hne => ?_⟩
    obtain ⟨b, o, size, ha, hb, hs, hr⟩ := h2 hne
    exact ⟨b, o, size, ha, hF b hb, hs, repRows_mono hF hw xs b o hb hr⟩
  | os, os', hos, .own id g n, v, h => by
    simp only [Rep] at h ⊢
    obtain ⟨o, ho, hle, hsh, h1⟩ := h
    obtain ⟨o', ho', hl', hs', hp'⟩ := hos id o ho
    refine ⟨o', ho', by omega, hsh, fun e => ?_⟩
    obtain ⟨e1, e2, e3⟩ := hp' (by omega)
    obtain ⟨h2, h3⟩ := h1 (by omega)
    refine ⟨by omega, ?_⟩
    rw [e1, e2]; exact h3
  | os, os', hos, .ptr id g i off, v, h => by
    simp only [Rep] at h ⊢
    obtain ⟨o, ho, hle, hsh, h1⟩ := h
    obtain ⟨o', ho', hl', hs', hp'⟩ := hos id o ho
    refine ⟨o', ho', by omega, hsh, fun e => ?_⟩
    obtain ⟨e1, e2, e3⟩ := hp' (by omega)
    obtain ⟨h2, h3, h4⟩ := h1 (by omega)
    refine ⟨by omega, by omega, ?_⟩
    rw [e1, hs']; exact h4
  | _, _, _, .iptr x off, v, h => by
    simp only [Rep] at h ⊢
    obtain ⟨b, o, hv, hb, hr⟩ := h
    exact ⟨b, o, hv, hF b hb, repCells_mono hF hw x b o hb hr⟩
  | os, os', hos, .fn f caps, v, h => by
    simp only [Rep] at h ⊢
    obtain ⟨us, hv, hr⟩ := h
    exact ⟨us, hv, repL_mono hF hw os os' hos caps us hr⟩
  | os, os', hos, .agg cs, v, h => by
    simp only [Rep] at h ⊢
    obtain ⟨us, hv, hr⟩ := h
    exact ⟨us, hv, repL_mono hF hw os os' hos cs us hr⟩
  | os, os', hos, .tup cs, v, h => by
    simp only [Rep] at h ⊢
    obtain ⟨us, hv, hr⟩ := h
    exact ⟨us, hv, repL_mono hF hw os os' hos cs us hr⟩
theorem repL_mono {F F' : Nat → Prop} {w w' : World} (hF : ∀ b, F b → F' b) (hw : ∀ b, F b → w'.heap[b]? = w.heap[b]?) :
    ∀ (os os' : List Own) (_ : ∀ (i : Nat) (o : Own), os[i]? = some o → ∃ o' : Own, os'[i]? = some o' ∧ o.row.gen ≤ o'.row.gen ∧ o'.row.size = o.row.size ∧ (o'.row.gen = o.row.gen → o'.blk = o.blk ∧ o'.cap = o.cap ∧ o'.row.xs.length = o.row.xs.length)) (xs : List AV) (us : List Value), RepL F w os xs us → RepL F' w' os' xs us
  | _, _, _, [], _, h => by simpa [RepL] using h
  | os, os', hos, x :: r, us, h => by
    simp only [RepL] at h ⊢
    obtain ⟨u, us', hu, h1, h2⟩ := h
    exact ⟨u, us', hu, rep_mono hF hw os os' hos x u h1, repL_mono hF hw os os' hos r us' h2⟩
theorem repCells_mono {F F' : Nat → Prop} {w w' : World} (hF : ∀ b, F b → F' b) (hw : ∀ b, F b → w'.heap[b]? = w.heap[b]?) :
    ∀ (xs : List AV) (b o : Nat), F b → RepCells F w xs b o → RepCells F' w' xs b o
  | [], _, _, _, _ => by simp [RepCells]
  | x :: r, b, o, hb, h => by
    simp only [RepCells] at h ⊢
    obtain ⟨⟨u, hu, hl, h1⟩, h2⟩ := h
    refine ⟨⟨u, ?_, hl, rep_mono hF hw [] [] (by simp) x u h1⟩, repCells_mono hF hw r b (o + 1) hb h2⟩
    rw [← hu]; exact World.cell?_of_block (hw b hb)
theorem repRows_mono {F F' : Nat → Prop} {w w' : World} (hF : ∀ b, F b → F' b) (hw : ∀ b, F b → w'.heap[b]? = w.heap[b]?) :
    ∀ (xs : List (List AV)) (b o : Nat), F b → RepRows F w xs b o → RepRows F' w' xs b o
  | [], _, _, _, _ => by simp [RepRows]
  | x :: r, b, o, hb, h => by
    simp only [RepRows] at h ⊢
    exact ⟨repCells_mono hF hw x b o hb h.1, repRows_mono hF hw r b (o + x.length) hb h.2⟩
end

mutual
theorem repD_mono {S S' : Nat → Prop} {w w' : World} (hS : ∀ b, S b → S' b) (hw : ∀ b, S b → w'.heap[b]? = w.heap[b]?) : ∀ (x : AV) (v : Value), RepD S w x v → RepD S' w' x v
  | .dv el size xs, v, h => by
    simp only [RepD] at h ⊢
    obtain ⟨hp, h⟩ := h
    refine ⟨hp, ?_⟩
    rcases h with h | ⟨b, cap, cur, h1, h2, h3, h4, h5, h6, h7, h8⟩
    · exact .inl h
    · refine .inr ⟨b, cap, cur, h1, h2, h3, hS b h4, by rw [hw b h4]; exact h5, h6, h7, repDR_mono (S := fun c => S c ∧ c ≠ b) (fun c hc => ⟨hS c hc.1, hc.2⟩) (fun c hc => hw c hc.1) xs cur 0 h8⟩
  | .int _ _, _, h => by simpa [RepD] using h
  | .bool _, _, h => by simpa [RepD] using h
  | .str _, _, h => by simpa [RepD] using h
  | .zc, _, h => by simpa [RepD] using h
  | .nilp, _, h => by simpa [RepD] using h
  | .nilf, _, h => by simpa [RepD] using h
  | .junk, _, h => by simp [RepD] at h
  | .un, _, h => by simp [RepD] at h
  | .sl _, _, h => by simp [RepD] at h
  | .own .., _, h => by simp [RepD] at h
  | .ptr .., _, h => by simp [RepD] at h
  | .iptr .., _, h => by simp [RepD] at h
  | .fn .., _, h => by simp [RepD] at h
  | .agg _, _, h => by simp [RepD] at h
  | .tup _, _, h => by simp [RepD] at h
theorem repDR_mono {S S' : Nat → Prop} {w w' : World} (hS : ∀ b, S b → S' b) (hw : ∀ b, S b → w'.heap[b]? = w.heap[b]?) : ∀ (xs : List (List AV)) (cur : Array Value) (o : Nat), RepDR S w xs cur o → RepDR S' w' xs cur o
  | [], _, _, _ => by simp [RepDR]
  | x :: r, cur, o, h => by
    simp only [RepDR] at h ⊢
    obtain ⟨S1, S2, h1, h2, h3, h4, h5⟩ := h
    exact ⟨S1, S2, fun b hb => hS b (h1 b hb), fun b hb => hS b (h2 b hb), h3, repDC_mono (fun _ h => h) (fun b hb => hw b (h1 b hb)) x cur o h4, repDR_mono (fun _ h => h) (fun b hb => hw b (h2 b hb)) r cur _ h5⟩
theorem repDC_mono {S S' : Nat → Prop} {w w' : World} (hS : ∀ b, S b → S' b) (hw : ∀ b, S b → w'.heap[b]? = w.heap[b]?) : ∀ (xs : List AV) (cur : Array Value) (o : Nat), RepDC S w xs cur o → RepDC S' w' xs cur o
  | [], _, _, _ => by simp [RepDC]
  | x :: r, cur, o, h => by
    simp only [RepDC] at h ⊢
    obtain ⟨S1, S2, h1, h2, h3, ⟨u, h4, h5⟩, h6⟩ := h
    exact ⟨S1, S2, fun b hb => hS b (h1 b hb), fun b hb => hS b (h2 b hb), h3, ⟨u, h4, repD_mono (fun _ h => h) (fun b hb => hw b (h1 b hb)) x u h5⟩, repDC_mono (fun _ h => h) (fun b hb => hw b (h2 b hb)) r cur _ h6⟩
end

/-- Nothing lies under cells of other kinds. -/
theorem DeepOK.flat {w : World} {o : Own} (h : ∀ x ∈ o.row.xs, ∀ c ∈ x, c.leaf = true) : DeepOK w o :=
  ⟨fun _ _ _ => False, fun _ _ _ h => h.elim, fun _ _ _ _ _ h => h.elim, fun _ _ _ _ _ _ i x j e s ys hx hc => by
    have := h x (List.mem_of_getElem? hx) _ (List.mem_of_getElem? hc)
    simp [AV.leaf] at this⟩

/-- What lay there lies there still: the row's blocks have not turned, its deep cells lie where they lay. -/
theorem DeepOK.keep {w w' : World} {o o' : Own} (h : DeepOK w o) (hb : o'.blk = o.blk) (hm : ∀ b, o.more b → o'.more b) (hs : o'.row.size = o.row.size)
    (hw : ∀ b, o.owns b → w'.heap[b]? = w.heap[b]?)
    (hr : ∀ (i : Nat) x (j : Nat) e s ys, o'.row.xs[i]? = some x → x[j]? = some (.dv e s ys) → ∃ x0, o.row.xs[i]? = some x0 ∧ x0[j]? = some (.dv e s ys)) : DeepOK w' o' := by
  obtain ⟨D, h1, h2, h3⟩ := h
  refine ⟨D, fun i j b hb => hm b (h1 i j b hb), h2, fun b hob cur el l hcur i x j e s ys hx hc => ?_⟩
  rw [hb] at hob
  rw [hw b (.inl hob)] at hcur
  obtain ⟨x0, hx0, hc0⟩ := hr i x j e s ys hx hc
  obtain ⟨u, e1, e2⟩ := h3 b hob cur el l hcur i x0 j e s ys hx0 hc0
  exact ⟨u, by rw [hs]; exact e1, repD_mono (fun _ h => h) (fun c hc => hw c (.inr (h1 i j c hc))) _ u e2⟩

theorem DeepOK.mapped {w : World} {o o' : Own} (f : AV → AV) (hf : ∀ c e s ys, f c = .dv e s ys → c = .dv e s ys) (h : DeepOK w o) (hb : o'.blk = o.blk) (hm : o'.more = o.more) (hs : o'.row.size = o.row.size)
    (hx : o'.row.xs = o.row.xs.map (·.map f)) : DeepOK w o' := by
  refine h.keep hb (fun b hb => by rw [hm]; exact hb) hs (fun _ _ => rfl) fun i x j e s ys hx' hc => ?_
  rw [hx, List.getElem?_map, Option.map_eq_some_iff] at hx'
  obtain ⟨y, hy, rfl⟩ := hx'
  rw [List.getElem?_map, Option.map_eq_some_iff] at hc
  obtain ⟨d, hd, hc⟩ := hc
  exact ⟨y, hy, by rw [hd, hf _ _ _ _ hc]⟩

theorem OwnOK.lt {F : Nat → Prop} {w : World} {os : List Own} {o : Own} (h : OwnOK F w os o) {b : Nat} (hb : o.owns b) : b < w.heap.size := by
  rcases hb with hb | hb
  · obtain ⟨_, cur, hcur, _⟩ := h.some b hb
    exact (Array.getElem?_eq_some_iff.1 hcur).1
  · exact (h.mo b hb).2.1
theorem OwnOK.nF {F : Nat → Prop} {w : World} {os : List Own} {o : Own} (h : OwnOK F w os o) {b : Nat} (hb : o.owns b) : ¬ F b := by
  rcases hb with hb | hb
  · exact (h.some b hb).1
  · exact (h.mo b hb).1
end Go.Abs

namespace Go.Abs
open Go

/-- What is asked of an exit, over abstract states. -/
def Post (k : Nat) (Q : Exit → St → Prop) (F : Nat → Prop) (os : List Own) (w : World) : Exit → Act → World → Prop :=
  fun e a' w' => ∃ s' F' os', Q e s' ∧ Rel F' os' s' a' w' ∧ Ext F os w F' os' w' k

def AW (P : Program) (k : Nat) (c : Code) (Q : Exit → St → Prop) (s : St) : Prop :=
  ∀ F os a w, Rel F os s a w → c.wp P (Post k Q F os w) a w

def athen (K : St → Prop) (Q : Exit → St → Prop) : Exit → St → Prop
  | .normal, s => K s
  | e, s => Q e s

/-- One state stands for another. -/
def Wk (k : Nat) (s s' : St) : Prop :=
  ∀ F os a w, Rel F os s a w → ∃ F' os', Rel F' os' s' a w ∧ Ext F os w F' os' w k

theorem Wk.refl (k : Nat) (s : St) : Wk k s s := fun F os _ w h => ⟨F, os, h, Ext.refl F os w k⟩
theorem Wk.trans {k : Nat} {s s' s'' : St} (h : Wk k s s') (g : Wk k s' s'') : Wk k s s'' := fun F os a w hr => by
  obtain ⟨F1, os1, h1, e1⟩ := h F os a w hr
  obtain ⟨F2, os2, h2, e2⟩ := g F1 os1 a w h1
  exact ⟨F2, os2, h2, e1.trans e2⟩

variable {P : Program} {k : Nat} {Q : Exit → St → Prop} {s : St}

theorem AW.mono {c : Code} {Q' : Exit → St → Prop} (h : AW P k c Q s) (hq : ∀ e s, Q e s → Q' e s) : AW P k c Q' s :=
  fun F os a w hr => wp_mono (h F os a w hr) fun e _ _ ⟨s', F', os', hQ, hR, hE⟩ => ⟨s', F', os', hq e s' hQ, hR, hE⟩

theorem AW.weaken {c : Code} {s' : St} (hw : Wk k s s') (h : AW P k c Q s') : AW P k c Q s := fun F os a w hr => by
  obtain ⟨F1, os1, h1, e1⟩ := hw F os a w hr
  exact wp_mono (h F1 os1 a w h1) fun e _ _ ⟨s2, F2, os2, hQ, hR, hE⟩ => ⟨s2, F2, os2, hQ, hR, e1.trans hE⟩

theorem Post.trans {F F' : Nat → Prop} {os os' : List Own} {w w' : World} (he : Ext F os w F' os' w' k) {e : Exit} {a : Act} {w2 : World}
    (h : Post k Q F' os' w' e a w2) : Post k Q F os w e a w2 :=
  let ⟨s2, F2, os2, hQ, hR, hE⟩ := h
  ⟨s2, F2, os2, hQ, hR, he.trans hE⟩

theorem AW.seq {x y : Code} (h : ∀ K : St → Prop, (∀ s, AW P k y Q s → K s) → AW P k x (athen K Q) s) : AW P k (.seq x y) Q s := by
  intro F os a w hr
  refine wp_seq (wp_mono (h (AW P k y Q) (fun _ h => h) F os a w hr) ?_)
  rintro e a' w' ⟨s', F', os', hQ, hR, hE⟩
  cases e with
  | normal => exact wp_mono (hQ F' os' a' w' hR) fun e a2 w2 hp => hp.trans hE
  | exit id => exact ⟨s', F', os', hQ, hR, hE⟩
  | goto l => exact ⟨s', F', os', hQ, hR, hE⟩
  | ret => exact ⟨s', F', os', hQ, hR, hE⟩
  | panic ch => exact ⟨s', F', os', hQ, hR, hE⟩
  | outgrown => exact ⟨s', F', os', hQ, hR, hE⟩

theorem AW.skip (h : Q .normal s) : AW P k .skip Q s := fun F os _ w hr => wp_skip ⟨s, F, os, h, hr, Ext.refl _ _ _ _⟩
theorem AW.exit {id : Nat} (h : Q (.exit id) s) : AW P k (.exit id) Q s := fun F os _ w hr => wp_exit ⟨s, F, os, h, hr, Ext.refl _ _ _ _⟩
theorem AW.ret (h : Q .ret s) : AW P k .ret Q s := fun F os _ w hr => wp_ret ⟨s, F, os, h, hr, Ext.refl _ _ _ _⟩

def ablock (id : Nat) (Q : Exit → St → Prop) : Exit → St → Prop
  | .exit id', s => if id' = id then Q .normal s else Q (.exit id') s
  | e, s => Q e s

theorem AW.block {id : Nat} {c : Code} (h : AW P k c (ablock id Q) s) : AW P k (.block id c) Q s := by
  intro F os a w hr
  refine wp_block (wp_mono (h F os a w hr) ?_)
  rintro e a' w' ⟨s', F', os', hQ, hR, hE⟩
  cases e with
  | exit id' =>
    simp only [Exit.inBlock, ablock] at hQ ⊢
    split at hQ <;> rename_i hid
    · rw [if_pos hid]; exact ⟨s', F', os', hQ, hR, hE⟩
    · rw [if_neg hid]; exact ⟨s', F', os', hQ, hR, hE⟩
  | _ => exact ⟨s', F', os', hQ, hR, hE⟩

theorem AW.loop {c : Code} (I : St → Prop) (μ : St → Nat) (h0 : ∃ s', Wk k s s' ∧ I s')
    (round : ∀ s, I s → AW P k c (athen (fun s' => ∃ s'', Wk k s' s'' ∧ I s'' ∧ μ s'' < μ s) Q) s) : AW P k (.loop c) Q s := by
  obtain ⟨s0, hw0, hI0⟩ := h0
  refine AW.weaken hw0 ?_
  have key : ∀ n s, μ s = n → I s → ∀ F os a w, Rel F os s a w → ∀ (b : Frame) (kk : List Item) (cs : List Frame),
      ∃ e a' w', Post k Q F os w e a' w' ∧ Arrives P (lone (b.at a (.code c :: .inLoop c :: kk)) cs w) b kk cs e a' w' := by
    intro n
    induction n using Nat.strongRecOn with
    | _ n ih =>
      intro s hn hI F os a w hr b kk cs
      obtain ⟨e, a₁, w₁, ⟨s1, F1, os1, hq, hR1, hE1⟩, harr⟩ := round s hI F os a w hr b (.inLoop c :: kk) cs
      cases e with
      | normal =>
        obtain ⟨s2, hw2, hI2, hlt⟩ := hq
        obtain ⟨F2, os2, hR2, hE2⟩ := hw2 F1 os1 a₁ w₁ hR1
        obtain ⟨e₂, a₂, w₂, hq₂, harr₂⟩ := ih (μ s2) (hn ▸ hlt) s2 rfl hI2 F2 os2 a₁ w₁ hR2 b kk cs
        exact ⟨e₂, a₂, w₂, hq₂.trans (hE1.trans hE2), .of_steps (Steps.trans harr (.one step_inLoop)) harr₂⟩
      | exit id => exact ⟨_, a₁, w₁, ⟨s1, F1, os1, hq, hR1, hE1⟩, .pass (x := .inLoop c) rfl (fun _ _ => .inl (by simp)) harr⟩
      | goto l => exact ⟨_, a₁, w₁, ⟨s1, F1, os1, hq, hR1, hE1⟩, .pass (x := .inLoop c) rfl (fun _ _ => .inl (by simp)) harr⟩
      | ret => exact ⟨_, a₁, w₁, ⟨s1, F1, os1, hq, hR1, hE1⟩, .pass (x := .inLoop c) rfl (fun _ _ => .inl (by simp)) harr⟩
      | panic ch => exact ⟨_, a₁, w₁, ⟨s1, F1, os1, hq, hR1, hE1⟩, .pass (x := .inLoop c) rfl (fun _ _ => .inl (by simp)) harr⟩
      | outgrown => exact ⟨_, a₁, w₁, ⟨s1, F1, os1, hq, hR1, hE1⟩, .pass (x := .inLoop c) rfl (fun _ _ => .inl (by simp)) harr⟩
  intro F os a w hr b kk cs
  obtain ⟨e, a', w', hq, harr⟩ := key _ s0 rfl hI0 F os a w hr b kk cs
  exact ⟨e, a', w', hq, .of_steps (.one step_loop) harr⟩

/-! ### Operands -/

def ofLeaf : Value → AV
  | .int k n => .int k n
  | .bool b => .bool b
  | .string s => .str s
  | .pointer none => .nilp
  | .slice none 0 0 => .zc
  | .nilFunc => .nilf
  | _ => .junk

/-- An element's zero: what is nil there is an empty slice. -/
def ofLeafZ : Value → AV
  | .slice none 0 0 => .sl []
  | v => ofLeaf v

def ofConst : Value → AV
  | .agg cs => .agg (cs.toList.map ofLeafZ)
  | v => ofLeaf v

theorem rep_ofLeaf (F : Nat → Prop) (w : World) (os : List Own) (v : Value) : Rep F w os (ofLeaf v) v := by
  unfold ofLeaf
  split <;> simp [Rep]

theorem repL_ofLeaf (F : Nat → Prop) (w : World) (os : List Own) : ∀ vs : List Value, RepL F w os (vs.map ofLeaf) vs
  | [] => by simp [RepL]
  | v :: vs => by simp only [List.map_cons, RepL]; exact ⟨v, vs, rfl, rep_ofLeaf F w os v, repL_ofLeaf F w os vs⟩

theorem rep_ofLeafZ (F : Nat → Prop) (w : World) (os : List Own) (v : Value) : Rep F w os (ofLeafZ v) v := by
  unfold ofLeafZ
  split
  · simp only [Rep]; exact ⟨none, 0, rfl, Nat.le_refl _, by simp⟩
  · exact rep_ofLeaf F w os _

theorem repL_ofLeafZ (F : Nat → Prop) (w : World) (os : List Own) : ∀ vs : List Value, RepL F w os (vs.map ofLeafZ) vs
  | [] => by simp [RepL]
  | v :: vs => by simp only [List.map_cons, RepL]; exact ⟨v, vs, rfl, rep_ofLeafZ F w os v, repL_ofLeafZ F w os vs⟩

theorem rep_ofConst (F : Nat → Prop) (w : World) (os : List Own) (v : Value) : Rep F w os (ofConst v) v := by
  unfold ofConst
  split
  · simp only [Rep]; exact ⟨_, by simp, repL_ofLeafZ F w os _⟩
  · exact rep_ofLeaf F w os v

def St.ev (s : St) : Operand → AV
  | .tmp t => s.env t
  | .const v => ofConst v
  | .global _ => .junk
  | .func f => .fn f []

theorem Rel.ev {F : Nat → Prop} {os : List Own} {a : Act} {w : World} (h : Rel F os s a w) (x : Operand) : Rep F w os (s.ev x) (a.eval x) := by
  cases x with
  | tmp t => exact h.env t
  | const v => exact rep_ofConst F w os v
  | global g => simp [St.ev, Rep]
  | func f => simp only [St.ev, Rep]; exact ⟨[], rfl, by simp [RepL]⟩

def St.put (s : St) (d : Option Tmp) (v : AV) : St :=
  match d with
  | none => s
  | some d => { s with env := upd s.env d v }

def dstOK (n : Nat) : Option Tmp → Bool
  | none => true
  | some d => d < n

theorem Rel.put {F : Nat → Prop} {os : List Own} {a : Act} {w : World} (h : Rel F os s a w) {d : Option Tmp} (hd : dstOK s.n d = true) {v : AV} {u : Value} (hv : Rep F w os v u) :
    Rel F os (s.put d v) (a.put d u) w := by
  cases d with
  | none => exact h
  | some d =>
    simp only [dstOK, decide_eq_true_eq] at hd
    refine ⟨h.st, fun j => ?_, by simp [Act.put, St.put, h.size], h.rows, h.inj, h.old, h.defers⟩
    simp only [St.put, upd, Act.put, Array.getD_eq_getD_getElem?]
    by_cases hj : j = d
    · subst hj
      rw [if_pos rfl, Array.getElem?_setIfInBounds_self_of_lt (by rw [h.size]; exact hd)]
      exact hv
    · rw [if_neg hj, Array.getElem?_setIfInBounds_ne (Ne.symm hj)]
      have := h.env j
      rwa [Array.getD_eq_getD_getElem?] at this

theorem Rel.junk {F : Nat → Prop} {os : List Own} {a : Act} {w : World} (h : Rel F os s a w) {d : Option Tmp} (hd : dstOK s.n d = true) (u : Value) : Rel F os (s.put d .junk) (a.put d u) w :=
  h.put hd (by simp [Rep])

theorem Rel.un {F : Nat → Prop} {os : List Own} {a : Act} {w : World} (h : Rel F os s a w) {d : Option Tmp} (hd : dstOK s.n d = true) : Rel F os (s.put d .un) (a.put d undef) w :=
  h.put hd (by simp [Rep])

def aBool (v : AV) (K : Bool → Prop) : Prop :=
  match v with
  | .bool b => K b
  | _ => False

theorem AW.cond {c : Operand} {x y : Code} (h : ∀ K1 K2 : Prop, (AW P k x Q s → K1) → (AW P k y Q s → K2) → aBool (s.ev c) fun b => (b = true → K1) ∧ (b = false → K2)) : AW P k (.cond c x y) Q s := by
  intro F os a w hr
  have h1 := h _ _ id id
  have h2 := hr.ev c
  generalize s.ev c = v at h1 h2
  cases v <;> simp only [aBool] at h1
  rename_i b
  simp only [Rep] at h2
  refine wp_cond h2 ?_
  cases b
  · exact h1.2 rfl F os a w hr
  · exact h1.1 rfl F os a w hr

end Go.Abs

namespace Go.Abs
open Go

/-! ### What the tables say of a type -/

/-- Is it a struct or an array; how many cells. -/
def isAggD : TypeDesc → Bool
  | .struct _ | .array _ _ => true
  | _ => false

def tinfo (P : Program) (t : TypeId) : Option (Bool × Nat) :=
  match P.underlying t, P.info? t with
  | some d, some i => some (isAggD d, i.size)
  | _, _ => none

/-- A slice type's element: its number, its cells, its bytes, its zero. -/
structure EInfo where
  e : TypeId
  size : Nat
  bytes : Nat
  zero : List AV

def einfo (P : Program) (t : TypeId) : Option EInfo :=
  match P.underlying t with
  | some (.slice e) => match P.info? e with
    | some i => match i.zero with
      | some z => if z.cells.size = i.size ∧ 0 < i.size ∧ (z.cells.toList.map ofLeafZ).all AV.leaf then some ⟨e, i.size, i.bytes, z.cells.toList.map ofLeafZ⟩ else none
      | none => none
    | none => none
  | _ => none

/-- A field's place. -/
def finfo (P : Program) (s : TypeId) (f : Nat) : Option Nat :=
  match P.underlying s with
  | some (.struct fs) => match fs[f]? with
    | some g => match P.info? g.type with
      | some i => if i.size = 0 then none else some g.offset
      | none => none
    | none => none
  | _ => none

/-! ### The operations that leave memory alone -/

def optK {α : Type} (o : Option α) (K : α → Prop) : Prop :=
  match o with
  | some a => K a
  | none => False

@[simp] theorem optK_some {α : Type} (a : α) (K : α → Prop) : optK (some a) K = K a := rfl
theorem optK_intro {α : Type} {o : Option α} {K : α → Prop} (a : α) (h : o = some a) (hk : K a) : optK o K := by rw [h]; exact hk
theorem optK_elim {α : Type} {o : Option α} {K : α → Prop} (h : optK o K) : ∃ a, o = some a ∧ K a := by
  cases o with
  | none => exact h.elim
  | some a => exact ⟨a, rfl, h⟩

def aPick (c a b : AV) (K : AV → Prop) : Prop :=
  match c, a, b with
  | .bool t, .bool p, .bool q => K (.bool (if t then p else q))
  | .bool t, x, y => (t = true → K x) ∧ (t = false → K y)
  | _, _, _ => False

def aNil (st : List Row) (x : AV) (K : AV → Prop) : Prop :=
  match x with
  | .ptr id g i off => optK st[id]? fun row => row.gen = g ∧ K (.ptr id g i off)
  | .iptr x off => K (.iptr x off)
  | _ => False

def aInt (op : BinOp) (k : IntKind) (a b : Int) (K : AV → Prop) : Prop :=
  match op with
  | .add => K (.int k (k.wrap (a + b)))
  | .sub => K (.int k (k.wrap (a - b)))
  | .mul => K (.int k (k.wrap (a * b)))
  | .quo => b ≠ 0 ∧ K (.int k (k.wrap (a.tdiv b)))
  | .rem => b ≠ 0 ∧ K (.int k (a.tmod b))
  | .eql => K (.bool (a == b))
  | .neq => K (.bool (a != b))
  | .lss => K (.bool (decide (a < b)))
  | .leq => K (.bool (decide (a ≤ b)))
  | .gtr => K (.bool (decide (a > b)))
  | .geq => K (.bool (decide (a ≥ b)))
  | .xor => K (.int k (k.wrap (BitVec.ofInt k.bits a ^^^ BitVec.ofInt k.bits b).toNat))
  | _ => False

def isBoolT (P : Program) (t : TypeId) : Bool :=
  match P.underlying t with
  | some .bool => true
  | _ => false

def aBin (P : Program) (t : TypeId) (op : BinOp) (x y : AV) (K : AV → Prop) : Prop :=
  match x, y with
  | .int k a, .int k' b => k = k' ∧ aInt op k a b K
  | .bool a, .bool b => isBoolT P t = true ∧ match op with
    | .eql => K (.bool (a == b))
    | .neq => K (.bool (a != b))
    | _ => False
  | _, _ => False

def aUn (op : UnOp) (x : AV) (K : AV → Prop) : Prop :=
  match op, x with
  | .not, .bool b => K (.bool (!b))
  | .neg, .int k n => K (.int k (k.wrap (-n)))
  | _, _ => False

def aPart (agg : Bool) (size : Nat) (x : List AV) (off : Nat) (K : AV → Prop) : Prop :=
  if agg then off + size ≤ x.length ∧ K (.agg ((x.drop off).take size)) else optK x[off]? K

def aLoad (P : Program) (st : List Row) (t : TypeId) (v : AV) (K : AV → Prop) : Prop :=
  optK (tinfo P t) fun ti => match v with
    | .ptr id g i off => optK st[id]? fun row => row.gen = g ∧ optK row.xs[i]? fun x => aPart ti.1 ti.2 x off K
    | .iptr x off => aPart ti.1 ti.2 x off K
    | _ => False

def aFieldAddr (P : Program) (s : TypeId) (v : AV) (f : Nat) (st : List Row) (K : AV → Prop) : Prop :=
  optK (finfo P s f) fun o => match v with
    | .ptr id g i off => optK st[id]? fun row => row.gen = g ∧ off + o ≤ row.size ∧ K (.ptr id g i (off + o))
    | .iptr x off => K (.iptr x (off + o))
    | _ => False

def aIndexAddr (P : Program) (st : List Row) (t : TypeId) (x i : AV) (K : AV → Prop) : Prop :=
  optK (einfo P t) fun ei => match x, i with
    | .own id g n, .int _ j => 0 ≤ j ∧ j < n ∧ optK st[id]? fun row => row.gen = g ∧ row.size = ei.size ∧ K (.ptr id g j.toNat 0)
    | .sl xs, .int _ j => 0 ≤ j ∧ optK xs[j.toNat]? fun y => y.length = ei.size ∧ K (.iptr y 0)
    | _, _ => False

def aLen (st : List Row) (x : AV) (K : AV → Prop) : Prop :=
  match x with
  | .own id g n => optK st[id]? fun row => row.gen = g ∧ K (.int .i64 n)
  | .sl xs => K (.int .i64 xs.length)
  | .zc => K (.int .i64 0)
  | _ => False

def aField (P : Program) (t : TypeId) (x : AV) (f : Nat) (K : AV → Prop) : Prop :=
  match x, P.underlying t with
  | .agg cs, some (.struct fs) => optK fs[f]? fun g => optK (tinfo P g.type) fun ti => aPart ti.1 ti.2 cs g.offset K
  | _, _ => False

def aExtract (x : AV) (i : Nat) (K : AV → Prop) : Prop :=
  match x with
  | .tup vs => optK vs[i]? K
  | _ => False

theorem repL_get {F : Nat → Prop} {w : World} {os : List Own} : ∀ {xs : List AV} {us : List Value}, RepL F w os xs us → ∀ (i : Nat) (x : AV), xs[i]? = some x → ∃ u, us[i]? = some u ∧ Rep F w os x u
  | [], _, _, i, x, hx => by simp at hx
  | y :: r, us, h, i, x, hx => by
    simp only [RepL] at h
    obtain ⟨u, us', rfl, h1, h2⟩ := h
    cases i with
    | zero => simp only [List.getElem?_cons_zero, Option.some.injEq] at hx; subst hx; exact ⟨u, rfl, h1⟩
    | succ i => simp only [List.getElem?_cons_succ] at hx ⊢; exact repL_get h2 i x hx

theorem repL_length {F : Nat → Prop} {w : World} {os : List Own} : ∀ {xs : List AV} {us : List Value}, RepL F w os xs us → us.length = xs.length
  | [], us, h => by simp only [RepL] at h; simp [h]
  | y :: r, us, h => by
    simp only [RepL] at h
    obtain ⟨u, us', rfl, h1, h2⟩ := h
    simp [repL_length h2]

theorem repL_mk {F : Nat → Prop} {w : World} {os : List Own} : ∀ {xs : List AV} {us : List Value}, us.length = xs.length → (∀ (i : Nat) x u, xs[i]? = some x → us[i]? = some u → Rep F w os x u) → RepL F w os xs us
  | [], us, h, _ => by simp only [RepL]; exact List.eq_nil_of_length_eq_zero (by simpa using h)
  | y :: r, [], h, _ => by simp at h
  | y :: r, u :: us, h, hi => by
    simp only [RepL]
    exact ⟨u, us, rfl, hi 0 y u rfl rfl, repL_mk (by simpa using h) fun i x u hx hu => hi (i + 1) x u (by simpa using hx) (by simpa using hu)⟩

theorem repCells_get {F : Nat → Prop} {w : World} : ∀ {xs : List AV} {b o : Nat}, RepCells F w xs b o → ∀ (i : Nat) x, xs[i]? = some x → ∃ u, w.cell? ⟨b, o + i, none⟩ = some u ∧ x.leaf = true ∧ Rep F w [] x u
  | [], _, _, _, i, x, hx => by simp at hx
  | y :: r, b, o, h, i, x, hx => by
    simp only [RepCells] at h
    cases i with
    | zero => simp only [List.getElem?_cons_zero, Option.some.injEq] at hx; subst hx; exact h.1
    | succ i =>
      simp only [List.getElem?_cons_succ] at hx
      have := repCells_get h.2 i x hx
      rwa [show o + 1 + i = o + (i + 1) by omega] at this

theorem repCells_mk {F : Nat → Prop} {w : World} : ∀ {xs : List AV} {b o : Nat}, (∀ (i : Nat) x, xs[i]? = some x → ∃ u, w.cell? ⟨b, o + i, none⟩ = some u ∧ x.leaf = true ∧ Rep F w [] x u) → RepCells F w xs b o
  | [], _, _, _ => by simp [RepCells]
  | y :: r, b, o, h => by
    simp only [RepCells]
    refine ⟨h 0 y rfl, repCells_mk fun i x hx => ?_⟩
    have := h (i + 1) x (by simpa using hx)
    rwa [show o + (i + 1) = o + 1 + i by omega] at this

theorem repRows_get {F : Nat → Prop} {w : World} {size : Nat} : ∀ {xs : List (List AV)} {b o : Nat}, (∀ x ∈ xs, x.length = size) → RepRows F w xs b o → ∀ (i : Nat) x, xs[i]? = some x → RepCells F w x b (o + i * size)
  | [], _, _, _, _, i, x, hx => by simp at hx
  | y :: r, b, o, hs, h, i, x, hx => by
    simp only [RepRows] at h
    cases i with
    | zero => simp only [List.getElem?_cons_zero, Option.some.injEq] at hx; subst hx; simpa using h.1
    | succ i =>
      simp only [List.getElem?_cons_succ] at hx
      have := repRows_get (fun x hx => hs x (by simp [hx])) h.2 i x hx
      rw [hs y (by simp)] at this
      rwa [show o + size + i * size = o + (i + 1) * size by rw [Nat.add_mul]; omega] at this

theorem repRows_mk {F : Nat → Prop} {w : World} {size : Nat} : ∀ {xs : List (List AV)} {b o : Nat}, (∀ x ∈ xs, x.length = size) → (∀ (i : Nat) x, xs[i]? = some x → RepCells F w x b (o + i * size)) → RepRows F w xs b o
  | [], _, _, _, _ => by simp [RepRows]
  | y :: r, b, o, hs, h => by
    simp only [RepRows]
    refine ⟨by simpa using h 0 y rfl, repRows_mk (fun x hx => hs x (by simp [hx])) fun i x hx => ?_⟩
    have := h (i + 1) x (by simpa using hx)
    rw [hs y (by simp)]
    rwa [show o + (i + 1) * size = o + size + i * size by rw [Nat.add_mul]; omega] at this

/-- A leaf of a pure value is one at every store. -/
theorem rep_pure {F : Nat → Prop} {w : World} (os : List Own) {x : AV} {u : Value} (h : Rep F w [] x u) : Rep F w os x u :=
  rep_mono (fun _ h => h) (fun _ _ => rfl) [] os (by simp) x u h

theorem rep_oneCell {F : Nat → Prop} {w : World} {os : List Own} {x : AV} {u : Value} (hl : x.leaf = true) (h : Rep F w os x u) : u.oneCell' = true := by
  cases x <;> simp only [AV.leaf, Bool.false_eq_true] at hl <;> simp only [Rep] at h
  case int => subst h; rfl
  case bool => subst h; rfl
  case str => subst h; rfl
  case zc => obtain ⟨a, rfl⟩ := h; rfl
  case nilp => subst h; rfl
  case nilf => subst h; rfl
  case sl => obtain ⟨a, cap, rfl, _⟩ := h; rfl
  case own => obtain ⟨o, _, _, ⟨a, l, c, rfl⟩, _⟩ := h; rfl
  case ptr => obtain ⟨o, _, _, ⟨a, rfl⟩, _⟩ := h; rfl
  case iptr => obtain ⟨b, o, rfl, _⟩ := h; rfl
  case fn => obtain ⟨us, rfl, _⟩ := h; rfl

theorem rep_oneCell' {F : Nat → Prop} {w : World} {os : List Own} {x : AV} {u : Value} (hl : x.kept = true) (h : Rep F w os x u) : u.oneCell' = true := by
  cases x with
  | dv => simp only [Rep] at h; obtain ⟨a, l, c, rfl⟩ := h; rfl
  | _ => exact rep_oneCell (by simpa [AV.kept] using hl) h

/-! ### Each is so in every related world -/

def Yields (P : Program) (F : Nat → Prop) (w : World) (os : List Own) (sem : Sem Value) (K : AV → Prop) : Prop :=
  ∃ x u, K x ∧ sem.run P w = .ok u w ∧ Rep F w os x u

variable {P : Program} {F : Nat → Prop} {os : List Own} {s : St} {a : Act} {w : World} {K : AV → Prop}

theorem Yields.int {k : IntKind} {n : Int} {sem : Sem Value} (h : K (.int k n)) (hr : sem.run P w = .ok (.int k n) w) : Yields P F w os sem K := ⟨_, _, h, hr, by simp [Rep]⟩
theorem Yields.bool {b : Bool} {sem : Sem Value} (h : K (.bool b)) (hr : sem.run P w = .ok (.bool b) w) : Yields P F w os sem K := ⟨_, _, h, hr, by simp [Rep]⟩

theorem aPick_ok {c x y : AV} {uc ux uy : Value} (h : aPick c x y K) (hc : Rep F w os c uc) (hx : Rep F w os x ux) (hy : Rep F w os y uy) :
    Yields P F w os (do pure (if ← asBool uc then ux else uy)) K := by
  cases c <;> simp only [aPick] at h
  rename_i t
  simp only [Rep] at hc
  subst hc
  have gen : (t = true → K x) ∧ (t = false → K y) → Yields P F w os (do pure (if ← asBool (.bool t) then ux else uy)) K := fun g => by
    cases t
    · exact ⟨y, uy, g.2 rfl, by simp [asBool], hy⟩
    · exact ⟨x, ux, g.1 rfl, by simp [asBool], hx⟩
  refine gen ?_
  split at h
  · rename_i h1; cases h1
    constructor
    · intro e; simpa [e] using h
    · intro e; simpa [e] using h
  · rename_i h1 _; cases h1; exact h
  · exact h.elim

theorem aNil_ok {x : AV} {u : Value} (hr : Rel F os s a w) (h : aNil s.st x K) (hx : Rep F w os x u) : ∃ v, K v ∧ (∃ ad, u = .pointer (some ad)) ∧ Rep F w os v u := by
  cases x <;> simp only [aNil] at h
  case ptr id g i off =>
    obtain ⟨row, hrow, hg, hk⟩ := optK_elim h
    refine ⟨_, hk, ?_, hx⟩
    simp only [Rep] at hx
    obtain ⟨o, ho, _, _, h2⟩ := hx
    have : row = o.row := by
      have := hr.st
      rw [← this, List.getElem?_map, ho] at hrow
      simpa using hrow.symm
    subst this
    obtain ⟨_, _, b, _, rfl⟩ := h2 hg
    exact ⟨_, rfl⟩
  case iptr y off =>
    refine ⟨_, h, ?_, hx⟩
    simp only [Rep] at hx
    obtain ⟨b, o, rfl, _⟩ := hx
    exact ⟨_, rfl⟩

theorem aInt_ok {op : BinOp} {t : TypeId} {k : IntKind} {x y : Int} (h : aInt op k x y K) : Yields P F w os (binOp op t (.int k x) (.int k y)) K := by
  cases op <;> simp only [aInt] at h
  case quo => exact .int h.2 (by simp [binOp, Op.intDiv, h.1])
  case rem => exact .int h.2 (by simp [binOp, Op.intDiv, h.1])
  case add => exact .int h (by simp [binOp, Op.intArith])
  case sub => exact .int h (by simp [binOp, Op.intArith])
  case mul => exact .int h (by simp [binOp, Op.intArith])
  case xor => exact .int h (by simp [binOp, Op.intBits])
  all_goals exact .bool h (by simp [binOp, Op.intCmp])

theorem run_equal_bool {t : TypeId} (hu : P.underlying t = some .bool) (a b : Bool) : (Op.equal t (.bool a) (.bool b)).run P w = .ok (a == b) w := by
  have hd : ∀ d, (Op.equalIn (d + 1) t (.bool a) (.bool b)).run P w = .ok (a == b) w := fun d => by
    simp only [Op.equalIn, Sem.run_bind, run_underlying hu, Result.andThen_ok, Sem.run_pure]
  have : Op.maxDepth = 9999 + 1 := rfl
  unfold Op.equal
  rw [this]
  exact hd 9999

theorem aBin_ok {op : BinOp} {t : TypeId} {x y : AV} {ux uy : Value} {ox oy : Operand} (h : aBin P t op x y K) (hx : Rep F w os x ux) (hy : Rep F w os y uy) :
    Yields P F w os (do eqGuard op t ox oy ux uy; binOp op t ux uy) K := by
  have hlift : ∀ ux uy, (∀ b, ux ≠ .nilIface ∧ ux ≠ .agg b) → Yields P F w os (binOp op t ux uy) K → Yields P F w os (do eqGuard op t ox oy ux uy; binOp op t ux uy) K := by
    rintro ux uy hne ⟨v, u, h1, h2, h3⟩
    refine ⟨v, u, h1, ?_, h3⟩
    have hg : (eqGuard op t ox oy ux uy).run P w = .ok () w := by
      unfold eqGuard
      cases op <;> simp <;> (cases ux <;> first | exact absurd rfl (hne #[]).1 | exact absurd rfl (hne _).2 | simp)
    simp [hg, h2]
  unfold aBin at h
  split at h
  · obtain ⟨rfl, h⟩ := h
    simp only [Rep] at hx hy
    subst hx; subst hy
    exact hlift _ _ (by simp) (aInt_ok h)
  · obtain ⟨hb, h⟩ := h
    simp only [Rep] at hx hy
    subst hx; subst hy
    have hu : P.underlying t = some .bool := by
      unfold isBoolT at hb
      split at hb
      · assumption
      · cases hb
    refine hlift _ _ (by simp) ?_
    split at h
    · exact .bool h (by simp [binOp, run_equal_bool hu])
    · rename_i p q _; exact .bool h (by simp only [binOp, Sem.run_bind, run_equal_bool hu, Result.andThen_ok, Sem.run_pure]; cases p <;> cases q <;> rfl)
    · exact h.elim
  · exact h.elim

theorem aUn_ok {op : UnOp} {x : AV} {ux : Value} (h : aUn op x K) (hx : Rep F w os x ux) : Yields P F w os (Op.unary op ux) K := by
  unfold aUn at h
  split at h
  · simp only [Rep] at hx; subst hx
    exact .bool h (by simp [Op.unary])
  · simp only [Rep] at hx; subst hx
    exact .int h (by simp [Op.unary, Op.intArith])
  · exact h.elim

/-! ### Reading memory -/

theorem Rel.row {id : Nat} {row : Row} (hr : Rel F os s a w) (h : s.st[id]? = some row) : ∃ o, os[id]? = some o ∧ o.row = row := by
  rw [← hr.st, List.getElem?_map] at h
  cases ho : os[id]? with
  | none => rw [ho] at h; cases h
  | some o => rw [ho] at h; exact ⟨o, rfl, by simpa using h⟩

/-- The cells of an element, from an offset on. -/
def CellsAt (F : Nat → Prop) (w : World) (os : List Own) (b o : Nat) (x : List AV) : Prop :=
  ∀ (j : Nat) c, x[j]? = some c → ∃ u, w.cell? ⟨b, o + j, none⟩ = some u ∧ c.kept = true ∧ Rep F w os c u

theorem tinfo_some {t : TypeId} {ti : Bool × Nat} (h : tinfo P t = some ti) : ∃ d i, P.underlying t = some d ∧ P.info? t = some i ∧ ti.1 = isAggD d ∧ ti.2 = i.size := by
  unfold tinfo at h
  split at h
  · rename_i d i hd hi
    simp only [Option.some.injEq] at h
    subst h
    exact ⟨d, i, hd, hi, rfl, rfl⟩
  · cases h

theorem run_isAgg {t : TypeId} {d : TypeDesc} (hu : P.underlying t = some d) : (isAgg t).run P w = .ok (isAggD d) w := by
  unfold isAgg
  rw [Sem.run_bind, run_underlying hu w]
  cases d <;> simp [isAggD]

theorem Addr.add_off (b o i : Nat) : (⟨b, o, none⟩ : Addr).add i = ⟨b, o + i, none⟩ := by
  unfold Addr.add; split <;> simp_all

theorem aPart_load {t : TypeId} {ti : Bool × Nat} (ht : tinfo P t = some ti) {b o : Nat} {x : List AV} {off : Nat} (hx : CellsAt F w os b o x) (h : aPart ti.1 ti.2 x off K) :
    Yields P F w os (loadVar t ⟨b, o + off, none⟩) K := by
  obtain ⟨d, i, hu, hi, e1, e2⟩ := tinfo_some ht
  unfold aPart at h
  have hsz : (sizeOf t).run P w = .ok i.size w := by simp [sizeOf, typeInfo, hi]
  have hag := run_isAgg (w := w) hu
  rw [← e1] at hag
  split at h
  · rename_i hagg
    obtain ⟨hl, hk⟩ := h
    rw [hagg] at hag
    have : ∀ j, j < ti.2 → ∃ u, w.cell? ((⟨b, o + off, none⟩ : Addr).add j) = some u ∧ ∀ c, x[off + j]? = some c → Rep F w os c u := fun j hj => by
      have hlt : off + j < x.length := by omega
      obtain ⟨u, hu1, _, hu2⟩ := hx (off + j) x[off + j] (List.getElem?_eq_getElem hlt)
      refine ⟨u, by rw [Addr.add_off, ← hu1, Nat.add_assoc], fun c hc => ?_⟩
      rw [List.getElem?_eq_getElem hlt, Option.some.injEq] at hc
      exact hc ▸ hu2
    have hch : ∃ f : Nat → Value, ∀ j, j < ti.2 → w.cell? ((⟨b, o + off, none⟩ : Addr).add j) = some (f j) ∧ ∀ c, x[off + j]? = some c → Rep F w os c (f j) :=
      ⟨fun j => (w.cell? ((⟨b, o + off, none⟩ : Addr).add j)).getD undef, fun j hj => by
        obtain ⟨u, hu1, hu2⟩ := this j hj
        simp only [hu1, Option.getD_some]; exact ⟨trivial, hu2⟩⟩
    obtain ⟨f, hf⟩ := hch
    refine ⟨_, .agg ((List.range ti.2).map f).toArray, hk, ?_, ?_⟩
    · have hlc := run_loadCells (P := P) w ⟨b, o + off, none⟩ ti.2 f (fun j hj => (hf j hj).1)
      simp [loadVar, hag, hsz, ← e2, hlc]
    · simp only [Rep]
      refine ⟨_, rfl, repL_mk (by simp; omega) fun j c u hc hu => ?_⟩
      simp only [List.getElem?_take, List.getElem?_drop] at hc
      split at hc
      · rename_i hj
        simp only [List.getElem?_map, List.getElem?_range hj, Option.map_some, Option.some.injEq] at hu
        subst hu
        exact (hf j hj).2 c hc
      · cases hc
  · rename_i hagg
    obtain ⟨c, hc, hk⟩ := optK_elim h
    obtain ⟨u, hu1, _, hu2⟩ := hx off c hc
    simp only [Bool.not_eq_true] at hagg
    rw [hagg] at hag
    exact ⟨c, u, hk, by simp [loadVar, hag, hu1], hu2⟩

theorem Rel.rowCells {id : Nat} {o : Own} (hr : Rel F os s a w) (ho : os[id]? = some o) {b : Nat} (hb : o.blk = some b) {i : Nat} {x : List AV} (hx : o.row.xs[i]? = some x) :
    CellsAt F w os b (i * o.row.size) x := by
  have hok := hr.rows id o ho
  obtain ⟨_, cur, hcur, hsz, hlen, _, hcells⟩ := hok.some b hb
  intro j c hc
  obtain ⟨u, hu1, hu2⟩ := hcells i x hx j c hc
  refine ⟨u, ?_, (hok.lens x (List.mem_of_getElem? hx)).2 c (List.mem_of_getElem? hc), hu2⟩
  rw [cell_of_row w b _ cur _ _ hcur]; exact hu1

theorem cellsAt_pure {b o : Nat} {x : List AV} (h : RepCells F w x b o) : CellsAt F w os b o x := fun j c hc => by
  obtain ⟨u, h1, h2, h3⟩ := repCells_get h j c hc
  exact ⟨u, h1, AV.kept_leaf h2, rep_pure os h3⟩

theorem aLoad_ok {t : TypeId} {v : AV} {u : Value} (hr : Rel F os s a w) (h : aLoad P s.st t v K) (hv : Rep F w os v u) : Yields P F w os (Instr.loadAt t u) K := by
  obtain ⟨ti, ht, h⟩ := optK_elim h
  cases v with
  | ptr id g i off =>
    obtain ⟨row, hrow, hg, h0⟩ := optK_elim h
    obtain ⟨x, hx, h1⟩ := optK_elim h0
    obtain ⟨o, ho, rfl⟩ := hr.row hrow
    simp only [Rep] at hv
    obtain ⟨o', ho', _, _, hv⟩ := hv
    rw [ho] at ho'; cases ho'
    obtain ⟨_, _, b, hb, rfl⟩ := hv hg
    simpa [Instr.loadAt, Instr.sureAddr, Yields] using aPart_load ht (hr.rowCells ho hb hx) h1
  | iptr x off =>
    simp only [Rep] at hv
    obtain ⟨b, o, rfl, hb, hc⟩ := hv
    simpa [Instr.loadAt, Instr.sureAddr, Yields] using aPart_load ht (cellsAt_pure hc) h
  | _ => exact h.elim

theorem aFieldAddr_ok {t : TypeId} {f : Nat} {v : AV} {u : Value} (hr : Rel F os s a w) (h : aFieldAddr P t v f s.st K) (hv : Rep F w os v u) : Yields P F w os (Instr.fieldAt t u f) K := by
  obtain ⟨o, ho, h⟩ := optK_elim h
  unfold finfo at ho
  split at ho <;> try (cases ho; done)
  rename_i fs hu
  split at ho <;> try (cases ho; done)
  rename_i g hg
  split at ho <;> try (cases ho; done)
  rename_i i hi
  split at ho
  · cases ho
  rename_i hz
  simp only [Option.some.injEq] at ho
  have hrun : ∀ b off, (Instr.fieldAt t (.pointer (some ⟨b, off, none⟩)) f).run P w = .ok (.pointer (some ⟨b, off + o, none⟩)) w := fun b off => by
    simp [Instr.fieldAt, run_underlying hu, hg, Instr.sureAddr, fieldPlace, sizeOf, typeInfo, hi, hz, Addr.add_off, ho]
  cases v with
  | ptr id gg i off =>
    obtain ⟨row, hrow, hg, hle, hk⟩ := optK_elim h
    obtain ⟨ow, how, rfl⟩ := hr.row hrow
    have hv' := hv
    simp only [Rep] at hv
    obtain ⟨o', ho', hge, _, hv⟩ := hv
    rw [how] at ho'; cases ho'
    obtain ⟨h1, h2, b, hb, rfl⟩ := hv hg
    refine ⟨_, _, hk, hrun _ _, ?_⟩
    simp only [Rep]
    exact ⟨ow, how, hge, ⟨_, rfl⟩, fun _ => ⟨h1, hle, b, hb, by rw [Nat.add_assoc]⟩⟩
  | iptr x off =>
    simp only [Rep] at hv
    obtain ⟨b, o', rfl, hb, hc⟩ := hv
    exact ⟨_, _, h, hrun _ _, by simp only [Rep]; exact ⟨b, o', by rw [Nat.add_assoc], hb, hc⟩⟩
  | _ => exact h.elim

theorem einfo_some {t : TypeId} {ei : EInfo} (h : einfo P t = some ei) : ∃ i z, P.underlying t = some (.slice ei.e) ∧ P.info? ei.e = some i ∧ i.zero = some z ∧ z.cells.size = i.size ∧ 0 < i.size ∧ ei.size = i.size ∧ ei.bytes = i.bytes ∧
    ei.zero = z.cells.toList.map ofLeafZ ∧ ∀ c ∈ ei.zero, c.leaf = true := by
  unfold einfo at h
  split at h <;> try (cases h; done)
  rename_i e hu
  split at h <;> try (cases h; done)
  rename_i i hi
  split at h <;> try (cases h; done)
  rename_i z hz
  split at h <;> try (cases h; done)
  rename_i hc
  simp only [Option.some.injEq] at h
  subst h
  exact ⟨i, z, hu, hi, hz, hc.1, hc.2.1, rfl, rfl, rfl, fun c hm => List.all_eq_true.1 hc.2.2 c hm⟩

theorem aIndexAddr_ok {t : TypeId} {x i : AV} {ux ui : Value} (hr : Rel F os s a w) (h : aIndexAddr P s.st t x i K) (hx : Rep F w os x ux) (hi : Rep F w os i ui) : Yields P F w os (Instr.indexAt t ux ui) K := by
  obtain ⟨ei, he, h⟩ := optK_elim h
  obtain ⟨inf, z, hu, hinf, _, _, hpos, hsz, _⟩ := einfo_some he
  have hs : (sizeOf ei.e).run P w = .ok ei.size w := by simp [sizeOf, typeInfo, hinf, hsz]
  have hrun : ∀ b o n c k (j : Int), 0 ≤ j → j < (n : Nat) → (Instr.indexAt t (.slice (some ⟨b, o, none⟩) n c) (.int k j)).run P w = .ok (.pointer (some ⟨b, o + j.toNat * ei.size, none⟩)) w := fun b o n c k j h0 h1 => by
    have hn : ¬ (n ≤ 1 ∧ False) := by simp
    simp [Instr.indexAt, asIntOf, run_underlying hu, h0, h1, hs, Addr.add_off]
  cases x with
  | own id g n =>
    cases i with
    | int k j =>
      obtain ⟨h0, h1, h⟩ := h
      obtain ⟨row, hrow, hg, hrs, hk⟩ := optK_elim h
      obtain ⟨ow, how, rfl⟩ := hr.row hrow
      simp only [Rep] at hx hi
      subst hi
      obtain ⟨o', ho', hge, _, hv⟩ := hx
      rw [how] at ho'; cases ho'
      obtain ⟨hl, hv⟩ := hv hg
      rcases hv with ⟨hb, _⟩ | ⟨b, hb, rfl⟩
      · have := (hr.rows id ow how).none hb
        simp [this.1] at hl
        omega
      · refine ⟨_, _, hk, hrun _ _ _ _ _ _ h0 h1, ?_⟩
        simp only [Rep]
        exact ⟨ow, how, hge, ⟨_, rfl⟩, fun _ => ⟨by omega, Nat.zero_le _, b, hb, by rw [hrs]; simp⟩⟩
    | _ => exact h.elim
  | sl xs =>
    cases i with
    | int k j =>
      obtain ⟨h0, h⟩ := h
      obtain ⟨y, hy, hyl, hk⟩ := optK_elim h
      simp only [Rep] at hx hi
      subst hi
      obtain ⟨ad, cap, rfl, _, hne⟩ := hx
      have hlt : j.toNat < xs.length := (List.getElem?_eq_some_iff.1 hy).1
      obtain ⟨b, o, size, rfl, hb, hss, hrows⟩ := hne (by intro e; rw [e] at hlt; simp at hlt)
      refine ⟨_, _, hk, hrun _ _ _ _ _ _ h0 (by omega), ?_⟩
      have hsize : size = ei.size := by rw [← hyl]; exact (hss y (List.mem_of_getElem? hy)).symm
      subst hsize
      simp only [Rep]
      exact ⟨b, o + j.toNat * ei.size, rfl, hb, repRows_get hss hrows _ _ hy⟩
    | _ => exact h.elim
  | _ => exact h.elim

def isSliceT (P : Program) (t : TypeId) : Bool :=
  match P.underlying t with
  | some (.slice _) => true
  | _ => false

theorem aLen_ok {t ty : TypeId} {x : AV} {ux : Value} (hr : Rel F os s a w) (ht : isSliceT P t = true) (h : aLen s.st x K) (hx : Rep F w os x ux) : Yields P F w os (Builtin.len_ #[t] ty #[ux]) K := by
  unfold isSliceT at ht
  split at ht
  case h_2 => cases ht
  rename_i e hu
  have hrun : ∀ ad n c, (Builtin.len_ #[t] ty #[.slice ad n c]).run P w = .ok (.int .i64 n) w := fun ad n c => by
    simp [Builtin.len_, run_underlying hu, goInt]
  cases x with
  | own id g n =>
    obtain ⟨row, hrow, hg, hk⟩ := optK_elim h
    obtain ⟨ow, how, rfl⟩ := hr.row hrow
    simp only [Rep] at hx
    obtain ⟨o', ho', hge, _, hv⟩ := hx
    rw [how] at ho'; cases ho'
    obtain ⟨hl, hv⟩ := hv hg
    rcases hv with ⟨_, ad, rfl⟩ | ⟨b, _, rfl⟩
    · exact .int hk (hrun _ _ _)
    · exact .int hk (hrun _ _ _)
  | sl xs =>
    simp only [Rep] at hx
    obtain ⟨ad, cap, rfl, _, _⟩ := hx
    exact .int h (hrun _ _ _)
  | zc =>
    simp only [Rep] at hx
    obtain ⟨ad, rfl⟩ := hx
    exact .int h (hrun _ _ _)
  | _ => exact h.elim

theorem aExtract_ok {x : AV} {ux : Value} {i : Nat} (h : aExtract x i K) (hx : Rep F w os x ux) : Yields P F w os (Instr.extract ux i) K := by
  cases x with
  | tup vs =>
    obtain ⟨y, hy, hk⟩ := optK_elim h
    simp only [Rep] at hx
    obtain ⟨us, rfl, hl⟩ := hx
    obtain ⟨u, hu, hru⟩ := repL_get hl i y hy
    exact ⟨y, u, hk, by simp [Instr.extract, hu], hru⟩
  | _ => exact h.elim

theorem aField_ok {t : TypeId} {f : Nat} {x : AV} {ux : Value} (h : aField P t x f K) (hx : Rep F w os x ux) : Yields P F w os (Instr.field t ux f) K := by
  unfold aField at h
  split at h
  · rename_i cs fs hu
    obtain ⟨g, hg, h⟩ := optK_elim h
    obtain ⟨ti, ht, h⟩ := optK_elim h
    simp only [Rep] at hx
    obtain ⟨us, rfl, hl⟩ := hx
    obtain ⟨d, i, hud, hi, e1, e2⟩ := tinfo_some ht
    have hag := run_isAgg (w := w) hud
    rw [← e1] at hag
    have hlen := repL_length hl
    unfold aPart at h
    split at h
    · rename_i hagg
      rw [hagg] at hag
      refine ⟨_, .agg (us.toArray.extract g.offset (g.offset + ti.2)), h.2, ?_, ?_⟩
      · simp [Instr.field, run_underlying hu, hg, asAgg, part, hag, sizeOf, typeInfo, hi, e2]
      · simp only [Rep]
        refine ⟨(us.drop g.offset).take ti.2, by simp, repL_mk (by simp; omega) fun j c u hc hu' => ?_⟩
        simp only [List.getElem?_take, List.getElem?_drop] at hc hu'
        split at hc
        · rename_i hj
          rw [if_pos hj] at hu'
          obtain ⟨u2, hu2, hr2⟩ := repL_get hl _ _ hc
          rw [hu2] at hu'; cases hu'; exact hr2
        · cases hc
    · rename_i hagg
      simp only [Bool.not_eq_true] at hagg
      rw [hagg] at hag
      obtain ⟨c, hc, hk⟩ := optK_elim h
      obtain ⟨u, hu', hru⟩ := repL_get hl _ _ hc
      exact ⟨c, u, hk, by simp [Instr.field, run_underlying hu, hg, asAgg, part, hag, hu'], hru⟩
  · exact h.elim

end Go.Abs

namespace Go.Abs
open Go

variable {P : Program} {F : Nat → Prop} {os : List Own} {s : St} {a : Act} {w : World} {k : Nat}

/-! ### How the rows may go on -/

def HosLe (os os' : List Own) : Prop :=
  ∀ (i : Nat) (o : Own), os[i]? = some o → ∃ o' : Own, os'[i]? = some o' ∧ o.row.gen ≤ o'.row.gen ∧ o'.row.size = o.row.size ∧ (o'.row.gen = o.row.gen → o'.blk = o.blk ∧ o'.cap = o.cap ∧ o'.row.xs.length = o.row.xs.length)

theorem HosLe.refl (os : List Own) : HosLe os os := fun _ o h => ⟨o, h, Nat.le_refl _, rfl, fun _ => ⟨rfl, rfl, rfl⟩⟩

theorem HosLe.append (os more : List Own) : HosLe os (os ++ more) := fun i o h =>
  ⟨o, by rw [List.getElem?_append_left (List.getElem?_eq_some_iff.1 h).1]; exact h, Nat.le_refl _, rfl, fun _ => ⟨rfl, rfl, rfl⟩⟩

theorem HosLe.set {id : Nat} {o o' : Own} (ho : os[id]? = some o) (h1 : o.row.gen ≤ o'.row.gen) (h2 : o'.row.size = o.row.size)
    (h3 : o'.row.gen = o.row.gen → o'.blk = o.blk ∧ o'.cap = o.cap ∧ o'.row.xs.length = o.row.xs.length) : HosLe os (os.set id o') := fun i oi hi => by
  by_cases e : i = id
  · subst e
    rw [ho] at hi; cases hi
    exact ⟨o', by rw [List.getElem?_set_self (List.getElem?_eq_some_iff.1 ho).1], h1, h2, h3⟩
  · exact ⟨oi, by rw [List.getElem?_set_ne (Ne.symm e)]; exact hi, Nat.le_refl _, rfl, fun _ => ⟨rfl, rfl, rfl⟩⟩

/-- The world after: nothing that was there has turned but block 'b'. -/
structure Turns (w w' : World) (b : Option Nat) : Prop where
  sys : w'.os = w.os
  tape : w'.tape = w.tape
  output : w'.output = w.output
  size : w.heap.size ≤ w'.heap.size
  old : ∀ i, i < w.heap.size → b ≠ some i → w'.heap[i]? = w.heap[i]?

theorem Turns.refl (w : World) (b : Option Nat) : Turns w w b := ⟨rfl, rfl, rfl, Nat.le_refl _, fun _ _ _ => rfl⟩
theorem Turns.alloc (w : World) (o : Obj) (b : Option Nat) : Turns w (w.alloc o) b := ⟨rfl, rfl, rfl, by simp, fun _ hi _ => heap_alloc_old w o hi⟩
theorem Turns.drewAlloc (w : World) (o : Obj) (b : Option Nat) : Turns w (w.drew.alloc o) b := ⟨rfl, rfl, rfl, by simp, fun _ hi _ => heap_alloc_old w.drew o hi⟩
theorem Turns.setRow (w : World) (g : Nat) (cs : Array Value) : Turns w (w.setRow g cs) (some g) := ⟨rfl, rfl, rfl, by simp, fun i _ hi => setRow_other w g i cs (fun e => hi (by rw [e]))⟩

/-- The rows go on, one more at their end or one turned; what is frozen is not touched. -/
theorem Rel.onto (hr : Rel F os s a w) {w' : World} {b : Option Nat} (ht : Turns w w' b) (hb : ∀ i, b = some i → ¬ F i) {os' : List Own} (hos : HosLe os os')
    (hrows : ∀ (i : Nat) (o : Own), os'[i]? = some o → (os[i]? = some o ∧ ∀ g, o.owns g → b ≠ some g) ∨ OwnOK F w' os' o)
    (hinj : ∀ (i j : Nat) (oi oj : Own) (g : Nat), os'[i]? = some oi → os'[j]? = some oj → oi.owns g → oj.owns g → i = j)
    (hblk : ∀ o' : Own, o' ∈ os' → ∀ g, o'.owns g → w.heap.size ≤ g ∨ ∃ o : Own, o ∈ os ∧ o.owns g)
    (hbo : ∀ g, b = some g → ∃ o : Own, o ∈ os ∧ o.owns g) :
    Rel F os' { s with st := os'.map Own.row } a w' ∧ Ext F os w F os' w' k ∧ ∀ x v, Rep F w os x v → Rep F w' os' x v := by
  have hF : ∀ g, F g → w'.heap[g]? = w.heap[g]? := fun g hg => ht.old g (hr.old g hg) (fun e => hb g e hg)
  have hmono : ∀ x v, Rep F w os x v → Rep F w' os' x v := fun x v h => rep_mono (fun _ h => h) hF os os' hos x v h
  refine ⟨⟨rfl, fun i => hmono _ _ (hr.env i), hr.size, fun i o ho => ?_, hinj, fun g hg => Nat.lt_of_lt_of_le (hr.old g hg) ht.size, hr.defers⟩, ⟨ht.sys, ht.tape, ht.output, ht.size, fun _ h => h, hF, fun g hg h1 h2 => ⟨?_, h1, fun o' ho' e => ?_⟩, fun i o _ ho => hos i o ho⟩, hmono⟩
  · rcases hrows i o ho with ⟨hold, hne⟩ | h
    · have hok := hr.rows i o hold
      refine ⟨hok.pos, hok.lens, hok.none, fun g hg => ?_, fun g hg => ⟨(hok.mo g hg).1, Nat.lt_of_lt_of_le (hok.mo g hg).2.1 ht.size, (hok.mo g hg).2.2⟩,
        hok.deep.keep rfl (fun _ h => h) rfl (fun g hg => ht.old g (hok.lt hg) (hne g hg)) (fun i x j e s ys hx hc => ⟨x, hx, hc⟩)⟩
      obtain ⟨h1, cur, hcur, h2, h3, h4, h5⟩ := hok.some g hg
      refine ⟨h1, cur, ?_, h2, h3, h4, fun i' x hx j c hc => ?_⟩
      · rw [ht.old g (Array.getElem?_eq_some_iff.1 hcur).1 (hne g (.inl hg))]; exact hcur
      · obtain ⟨u, hu1, hu2⟩ := h5 i' x hx j c hc
        exact ⟨u, hu1, hmono _ _ hu2⟩
    · exact h
  · refine ht.old g hg (fun e => ?_)
    obtain ⟨o, ho, hog⟩ := hbo g e
    exact h2 o ho hog
  · rcases hblk o' ho' g e with h3 | ⟨o, ho, hog⟩
    · omega
    · exact h2 o ho hog

/-- A new row. -/
theorem Rel.addRow (hr : Rel F os s a w) {w0 : World} (ht0 : w0 = w ∨ w0 = w.drew) {cur : Array Value} {e : TypeId} {size cap : Nat} {xs : List (List AV)} (hpos : 0 < size) (hlens : ∀ x ∈ xs, x.length = size ∧ ∀ c ∈ x, c.leaf = true)
    (hsz : cur.size = cap * size) (hle : xs.length ≤ cap) (hmax : cap ≤ maxLen)
    (hcells : ∀ (i : Nat) x, xs[i]? = some x → ∀ (j : Nat) c, x[j]? = some c → ∃ u, cur[i * size + j]? = some u ∧ Rep F w os c u) :
    let o : Own := ⟨⟨0, e, size, xs⟩, some w.heap.size, cap, none'⟩
    Rel F (os ++ [o]) { s with st := s.st ++ [o.row] } a (w0.alloc (.cells cur e)) ∧ Ext F os w F (os ++ [o]) (w0.alloc (.cells cur e)) k ∧ (∀ x v, Rep F w os x v → Rep F (w0.alloc (.cells cur e)) (os ++ [o]) x v) := by
  intro o
  have ht : Turns w (w0.alloc (.cells cur e)) none := by
    rcases ht0 with rfl | rfl
    · exact Turns.alloc _ _ _
    · exact Turns.drewAlloc _ _ _
  have hs0 : w0.heap.size = w.heap.size := by rcases ht0 with rfl | rfl <;> rfl
  have hlt : ∀ (i : Nat) (oi : Own) g, os[i]? = some oi → oi.owns g → g < w.heap.size := fun i oi g hi hg => (hr.rows i oi hi).lt hg
  have hget : ∀ (i : Nat) (oi : Own), (os ++ [o])[i]? = some oi → os[i]? = some oi ∨ (i = os.length ∧ oi = o) := fun i oi hi => by
    rcases Nat.lt_trichotomy i os.length with h | h | h
    · rw [List.getElem?_append_left h] at hi; exact .inl hi
    · subst h; simp at hi; exact .inr ⟨rfl, hi.symm⟩
    · rw [List.getElem?_append_right (by omega), List.getElem?_eq_none (by simp; omega)] at hi; cases hi
  have hold : ∀ x v, Rep F w os x v → Rep F (w0.alloc (.cells cur e)) (os ++ [o]) x v := fun x v h =>
    rep_mono (fun _ h => h) (fun g hg => ht.old g (hr.old g hg) (by simp)) os _ (HosLe.append os [o]) x v h
  have := hr.onto (k := k) ht (by simp) (os' := os ++ [o]) (HosLe.append os [o]) (fun i oi hi => by
      rcases hget i oi hi with h | ⟨_, rfl⟩
      · exact .inl ⟨h, by simp⟩
      · refine .inr ⟨hpos, fun x hx => ⟨(hlens x hx).1, fun c hc => AV.kept_leaf ((hlens x hx).2 c hc)⟩, by simp [o], fun g hg => ?_, fun g hg => hg.elim, DeepOK.flat fun x hx => (hlens x hx).2⟩
        simp only [o, Option.some.injEq] at hg
        subst hg
        refine ⟨fun hF => absurd (hr.old _ hF) (Nat.lt_irrefl _), cur, by rw [← hs0]; exact heap_alloc_new w0 _, hsz, hle, hmax, fun i' x hx j c hc => ?_⟩
        obtain ⟨u, h1, h2⟩ := hcells i' x hx j c hc
        exact ⟨u, h1, hold _ _ h2⟩)
    (fun i j oi oj g hi hj hgi hgj => by
      rcases hget i oi hi with h | ⟨h, rfl⟩ <;> rcases hget j oj hj with h' | ⟨h', rfl⟩
      · exact hr.inj i j oi oj g h h' hgi hgj
      · have := hlt i oi g h hgi; simp only [Own.owns, o, none', or_false, Option.some.injEq] at hgj; omega
      · have := hlt j oj g h' hgj; simp only [Own.owns, o, none', or_false, Option.some.injEq] at hgi; omega
      · omega)
    (fun o' ho' g hg => by
      rcases List.mem_append.1 ho' with h | h
      · exact .inr ⟨o', h, hg⟩
      · simp only [List.mem_singleton] at h; subst h; simp only [Own.owns, o, none', or_false, Option.some.injEq] at hg; exact .inl (by omega))
    (by simp)
  refine ⟨?_, this.2.1, this.2.2⟩
  have h1 := this.1
  rw [List.map_append, hr.st] at h1
  simpa using h1

/-- A row turned. -/
theorem Rel.turnRow (hr : Rel F os s a w) {id : Nat} {o o' : Own} (ho : os[id]? = some o) {w' : World} (ht : Turns w w' o.blk)
    (h1 : o.row.gen ≤ o'.row.gen) (h2 : o'.row.size = o.row.size) (h3 : o'.row.gen = o.row.gen → o'.blk = o.blk ∧ o'.cap = o.cap ∧ o'.row.xs.length = o.row.xs.length)
    (hb : ∀ g, o'.owns g → o.owns g ∨ w.heap.size ≤ g)
    (hok : (∀ x v, Rep F w os x v → Rep F w' (os.set id o') x v) → OwnOK F w' (os.set id o') o') :
    Rel F (os.set id o') { s with st := s.st.set id o'.row } a w' ∧ Ext F os w F (os.set id o') w' k ∧ (∀ x v, Rep F w os x v → Rep F w' (os.set id o') x v) := by
  have hos : HosLe os (os.set id o') := HosLe.set ho h1 h2 h3
  have hFb : ∀ i, o.blk = some i → ¬ F i := fun i hi => (hr.rows id o ho).nF (.inl hi)
  have hmono : ∀ x v, Rep F w os x v → Rep F w' (os.set id o') x v := fun x v h =>
    rep_mono (fun _ h => h) (fun g hg => ht.old g (hr.old g hg) (fun e => hFb g e hg)) os _ hos x v h
  have hlt : ∀ (i : Nat) (oi : Own) g, os[i]? = some oi → oi.owns g → g < w.heap.size := fun i oi g hi hg => (hr.rows i oi hi).lt hg
  have hget : ∀ (i : Nat) (oi : Own), (os.set id o')[i]? = some oi → (i ≠ id ∧ os[i]? = some oi) ∨ (i = id ∧ oi = o') := fun i oi hi => by
    by_cases e : i = id
    · subst e; rw [List.getElem?_set_self (List.getElem?_eq_some_iff.1 ho).1, Option.some.injEq] at hi; exact .inr ⟨rfl, hi.symm⟩
    · rw [List.getElem?_set_ne (Ne.symm e)] at hi; exact .inl ⟨e, hi⟩
  have := hr.onto (k := k) ht hFb hos (fun i oi hi => by
      rcases hget i oi hi with ⟨hne, h⟩ | ⟨_, rfl⟩
      · exact .inl ⟨h, fun g hg e => hne (hr.inj i id oi o g h ho hg (.inl e))⟩
      · exact .inr (hok hmono))
    (fun i j oi oj g hi hj hgi hgj => by
      rcases hget i oi hi with ⟨hne, h⟩ | ⟨h, rfl⟩ <;> rcases hget j oj hj with ⟨hne', h'⟩ | ⟨h', rfl⟩
      · exact hr.inj i j oi oj g h h' hgi hgj
      · rcases hb g hgj with e | e
        · exact absurd (hr.inj i id oi o g h ho hgi e) hne
        · have := hlt i oi g h hgi; omega
      · rcases hb g hgi with e | e
        · exact absurd (hr.inj j id oj o g h' ho hgj e) hne'
        · have := hlt j oj g h' hgj; omega
      · omega)
    (fun ox hox g hg => by
      obtain ⟨i, hi⟩ := List.mem_iff_getElem?.1 hox
      rcases hget i ox hi with ⟨_, h⟩ | ⟨_, rfl⟩
      · exact .inr ⟨ox, List.mem_of_getElem? h, hg⟩
      · rcases hb g hg with e | e
        · exact .inr ⟨o, List.mem_of_getElem? ho, e⟩
        · exact .inl e)
    (fun g hg => ⟨o, List.mem_of_getElem? ho, .inl hg⟩)
  refine ⟨?_, this.2.1, this.2.2⟩
  have h1 := this.1
  rw [List.map_set, hr.st] at h1
  exact h1

end Go.Abs

namespace Go.Abs
open Go

/-! ### The operations that make or turn rows -/

def cellsV (v : AV) : Option (List AV) :=
  match v with
  | .agg cs => if cs.all AV.leaf then some cs else none
  | v => if v.leaf then some [v] else none

def zinfo (P : Program) (e : TypeId) : Option (List AV) :=
  match P.info? e with
  | some i => match i.zero with
    | some z => if (z.cells.toList.map ofLeaf).all AV.leaf && !z.cells.isEmpty then some (z.cells.toList.map ofLeaf) else none
    | none => none
  | none => none

def splice (x : List AV) (off : Nat) (cs : List AV) : List AV := x.take off ++ cs ++ x.drop (off + cs.length)

def aAlloc (P : Program) (e : TypeId) (st : List Row) (K : AV → List Row → Prop) : Prop :=
  optK (zinfo P e) fun z => K (.ptr st.length 0 0 0) (st ++ [⟨0, e, z.length, [z]⟩])

def aBox (e : TypeId) (st : List Row) (v : AV) (K : AV → List Row → Prop) : Prop :=
  optK (cellsV v) fun cs => cs ≠ [] ∧ K (.ptr st.length 0 0 0) (st ++ [⟨0, e, cs.length, [cs]⟩])

def aStore (P : Program) (st : List Row) (t : TypeId) (p v : AV) (K : List Row → Prop) : Prop :=
  optK (tinfo P t) fun ti => match p with
    | .ptr id g i off => optK st[id]? fun row => row.gen = g ∧ optK row.xs[i]? fun x => optK (cellsV v) fun cs =>
        cs.length = ti.2 ∧ off + cs.length ≤ row.size ∧ K (st.set id { row with xs := row.xs.set i (splice x off cs) })
    | _ => False

def aMake (P : Program) (st : List Row) (t : TypeId) (l c : AV) (K : AV → List Row → Prop) : Prop :=
  optK (einfo P t) fun ei => match l, c with
    | .int _ n, .int _ m => n = m ∧ 0 ≤ n ∧ n * (ei.bytes : Int) ≤ 281474976710656 ∧ n ≤ 9223372036854775807 ∧ K (.own st.length 0 n.toNat) (st ++ [⟨0, ei.e, ei.size, List.replicate n.toNat ei.zero⟩])
    | _, _ => False

/-- The elements behind a slice. -/
def aElems (st : List Row) (x : AV) (K : List (List AV) → Prop) : Prop :=
  match x with
  | .sl ys => K ys
  | .zc => K []
  | .own id g n => optK st[id]? fun row => row.gen = g ∧ (∀ y ∈ row.xs, ∀ c ∈ y, c.leaf = true) ∧ K (row.xs.take n)
  | _ => False

def aAppend (P : Program) (st : List Row) (t : TypeId) (d x : AV) (K : AV → List Row → Prop) : Prop :=
  optK (einfo P t) fun ei => aElems st x fun ys => (∀ y ∈ ys, y.length = ei.size) ∧ match d with
    | .zc => ys.length * ei.bytes ≤ 140737488355328 ∧ ys.length ≤ 9223372036854775807 ∧ K (.own st.length 0 ys.length) (st ++ [⟨0, ei.e, ei.size, ys⟩])
    | .own id g n => optK st[id]? fun row => row.gen = g ∧ row.elem = ei.e ∧ row.size = ei.size ∧ (n + ys.length) * ei.bytes ≤ 140737488355328 ∧ n + ys.length ≤ 9223372036854775807 ∧
        K (.own id (g + 1) (n + ys.length)) (st.set id { row with gen := g + 1, xs := row.xs.take n ++ ys })
    | _ => False

variable {P : Program} {F : Nat → Prop} {os : List Own} {s : St} {a : Act} {w : World} {k : Nat}

def Effects (P : Program) (k : Nat) (F : Nat → Prop) (os : List Own) (s : St) (a : Act) (w : World) (sem : Sem Value) (K : AV → List Row → Prop) : Prop :=
  ∃ v st' u w' os', K v st' ∧ sem.run P w = .ok u w' ∧ Rel F os' { s with st := st' } a w' ∧ Rep F w' os' v u ∧ Ext F os w F os' w' k

theorem Rel.len (hr : Rel F os s a w) : s.st.length = os.length := by rw [← hr.st]; simp

theorem rep_newPtr (hr : Rel F os s a w) {w' : World} {o : Own} (hb : o.blk = some w.heap.size) (hx : 0 < o.row.xs.length) (hg : o.row.gen = 0) : Rep F w' (os ++ [o]) (.ptr s.st.length 0 0 0) (.pointer (some ⟨w.heap.size, 0, none⟩)) := by
  simp only [Rep]
  exact ⟨o, by rw [hr.len]; simp, by omega, ⟨_, rfl⟩, fun _ => ⟨hx, Nat.zero_le _, _, hb, by simp⟩⟩

theorem cellsV_rep {v : AV} {u : Value} {cs : List AV} (h : cellsV v = some cs) (hv : Rep F w os v u) : RepL F w os cs u.cells.toList ∧ (∀ c ∈ cs, c.leaf = true) := by
  cases v with
  | agg xs =>
    simp only [cellsV] at h
    split at h <;> simp only [Option.some.injEq, reduceCtorEq] at h
    subst h
    rename_i hl
    simp only [Rep] at hv
    obtain ⟨us, rfl, hus⟩ := hv
    exact ⟨by simpa [Value.cells] using hus, fun c hc => List.all_eq_true.1 hl c hc⟩
  | _ =>
    simp only [cellsV] at h
    split at h <;> simp only [Option.some.injEq, reduceCtorEq] at h
    subst h
    rename_i hl
    refine ⟨?_, by simpa using hl⟩
    have h1 := rep_oneCell hl hv
    have : u.cells.toList = [u] := by cases u <;> simp_all [Value.cells, Value.oneCell']
    rw [this]
    simp only [RepL]
    exact ⟨u, [], rfl, hv, rfl⟩

theorem newVar_ok (hr : Rel F os s a w) {e : TypeId} {v : Value} {cs : List AV} (hl : RepL F w os cs v.cells.toList) (hleaf : ∀ c ∈ cs, c.leaf = true) (hne : cs ≠ []) {K : AV → List Row → Prop}
    (hk : K (.ptr s.st.length 0 0 0) (s.st ++ [⟨0, e, cs.length, [cs]⟩])) : Effects P k F os s a w (do pure (.pointer (some (← newVar e v)))) K := by
  have hlen := repL_length hl
  simp only [Array.length_toList] at hlen
  have hpos : 0 < cs.length := List.length_pos_iff.2 hne
  have := hr.addRow (k := k) (.inl rfl) (cur := v.cells) (e := e) (size := cs.length) (cap := 1) (xs := [cs]) hpos (by simpa using hleaf) (by simpa using hlen) (by simp) (by simp [maxLen]) (fun i x hx j c hc => by
    cases i with
    | zero =>
      simp only [List.getElem?_cons_zero, Option.some.injEq] at hx; subst hx
      obtain ⟨u, h1, h2⟩ := repL_get hl j c hc
      exact ⟨u, by simpa using h1, h2⟩
    | succ i => simp at hx)
  refine ⟨_, _, .pointer (some ⟨w.heap.size, 0, none⟩), _, _, hk, ?_, this.1, rep_newPtr hr rfl (by simp) rfl, this.2.1⟩
  simp [newVar, newRow]

theorem aBox_ok {e : TypeId} {v : AV} {u : Value} {K : AV → List Row → Prop} (hr : Rel F os s a w) (h : aBox e s.st v K) (hv : Rep F w os v u) : Effects P k F os s a w (Instr.box e u) K := by
  obtain ⟨cs, hcs, hne, hk⟩ := optK_elim h
  obtain ⟨h1, h2⟩ := cellsV_rep hcs hv
  exact newVar_ok hr h1 h2 hne hk

theorem zinfo_some {e : TypeId} {z : List AV} (h : zinfo P e = some z) : ∃ i v, P.info? e = some i ∧ i.zero = some v ∧ z = v.cells.toList.map ofLeaf ∧ (∀ c ∈ z, c.leaf = true) ∧ z ≠ [] := by
  unfold zinfo at h
  split at h <;> try (cases h; done)
  rename_i i hi
  split at h <;> try (cases h; done)
  rename_i v hv
  split at h <;> try (cases h; done)
  rename_i hc
  simp only [Bool.and_eq_true, Bool.not_eq_true', Array.isEmpty_eq_false_iff] at hc
  simp only [Option.some.injEq] at h
  subst h
  refine ⟨i, v, hi, hv, rfl, fun c hm => List.all_eq_true.1 hc.1 c hm, ?_⟩
  simpa using hc.2

theorem aAlloc_ok {e : TypeId} {K : AV → List Row → Prop} (hr : Rel F os s a w) (h : aAlloc P e s.st K) : Effects P k F os s a w (Instr.alloc e true (.tuple #[])) K := by
  obtain ⟨z, hz, hk⟩ := optK_elim h
  obtain ⟨i, v, hi, hv, rfl, hl, hne⟩ := zinfo_some hz
  obtain ⟨x, st', u, w', os', h1, h2, h3⟩ := newVar_ok (P := P) (k := k) (v := v) hr (repL_ofLeaf F w os _) hl hne hk
  refine ⟨x, st', u, w', os', h1, ?_, h3⟩
  have hz' : (zeroValue e).run P w = .ok v w := by simp [zeroValue, typeInfo, hi, hv]
  simpa [Instr.alloc, hz'] using h2

theorem splice_length {x cs : List AV} {off n : Nat} (hx : x.length = n) (h : off + cs.length ≤ n) : (splice x off cs).length = n := by
  simp [splice]; omega

theorem splice_get (x cs : List AV) (off j : Nat) (hoff : off ≤ x.length) : (splice x off cs)[j]? = if j < off then x[j]? else if j < off + cs.length then cs[j - off]? else x[j]? := by
  unfold splice
  by_cases h1 : j < off
  · rw [if_pos h1, List.append_assoc, List.getElem?_append_left (by simp; omega), List.getElem?_take, if_pos h1]
  · rw [if_neg h1]
    by_cases h2 : j < off + cs.length
    · rw [if_pos h2, List.getElem?_append_left (by simp; omega), List.getElem?_append_right (by simp; omega)]
      simp [Nat.min_eq_left hoff]
    · rw [if_neg h2, List.getElem?_append_right (by simp; omega), List.getElem?_drop]
      congr 1
      simp [Nat.min_eq_left hoff]; omega

theorem setSeg_get {cur : Array Value} {us : List Value} {p j : Nat} (h : p + us.length ≤ cur.size) :
    ((cur.toList.take p ++ us ++ cur.toList.drop (p + us.length)).toArray)[j]? = if j < p then cur[j]? else if j < p + us.length then us[j - p]? else cur[j]? := by
  simp only [List.getElem?_toArray]
  by_cases h1 : j < p
  · rw [if_pos h1, List.append_assoc, List.getElem?_append_left (by simp; omega), List.getElem?_take, if_pos h1]; simp
  · rw [if_neg h1]
    by_cases h2 : j < p + us.length
    · rw [if_pos h2, List.getElem?_append_left (by simp; omega), List.getElem?_append_right (by simp; omega)]
      congr 1; simp; omega
    · rw [if_neg h2, List.getElem?_append_right (by simp; omega), List.getElem?_drop]
      simp only [List.length_append, List.length_take, Array.length_toList, Array.getElem?_toList]
      congr 1; omega

theorem aStore_ok {t : TypeId} {p v : AV} {up uv : Value} {K : List Row → Prop} (hr : Rel F os s a w) (h : aStore P s.st t p v K) (hp : Rep F w os p up) (hv : Rep F w os v uv) :
    ∃ st' w' os', K st' ∧ (Instr.storeAt t up uv).run P w = .ok () w' ∧ Rel F os' { s with st := st' } a w' ∧ Ext F os w F os' w' k := by
  obtain ⟨ti, ht, h⟩ := optK_elim h
  obtain ⟨d, inf, hud, hi, _, e2⟩ := tinfo_some ht
  cases p with
  | ptr id g i off =>
    obtain ⟨row, hrow, hg, h0⟩ := optK_elim h
    obtain ⟨x, hx, h1⟩ := optK_elim h0
    obtain ⟨cs, hcs, hlen, hfit, hk⟩ := optK_elim h1
    obtain ⟨o, ho, rfl⟩ := hr.row hrow
    simp only [Rep] at hp
    obtain ⟨o', ho', hge, _, hp⟩ := hp
    rw [ho] at ho'; cases ho'
    obtain ⟨_, _, b, hb, rfl⟩ := hp hg
    obtain ⟨hrl, hleaf⟩ := cellsV_rep hcs hv
    have hok := hr.rows id o ho
    obtain ⟨hnF, cur, hcur, hsz, hle, hmax, hcells⟩ := hok.some b hb
    have hil : i < o.row.xs.length := (List.getElem?_eq_some_iff.1 hx).1
    have hulen := repL_length hrl
    have hxl := (hok.lens x (List.mem_of_getElem? hx)).1
    have hbound : i * o.row.size + off + uv.cells.toList.length ≤ cur.size := by
      rw [hulen, hsz]
      have : (i + 1) * o.row.size ≤ o.cap * o.row.size := Nat.mul_le_mul_right _ (by omega)
      rw [Nat.add_mul] at this; omega
    have hone : ∀ u ∈ uv.cells.toList, u.oneCell' = true := fun u hu => by
      obtain ⟨j, hj⟩ := List.mem_iff_getElem?.1 hu
      have hjl : j < cs.length := by rw [← hulen]; exact (List.getElem?_eq_some_iff.1 hj).1
      obtain ⟨u', hu', hr'⟩ := repL_get hrl j cs[j] (List.getElem?_eq_getElem hjl)
      rw [hj] at hu'; cases hu'
      exact rep_oneCell (hleaf _ (List.getElem_mem hjl)) hr'
    have hst := run_storeCells_at P b (i * o.row.size + off) o.row.elem uv.cells.toList 0 cur w hcur (by simpa using hbound) hone
    simp only [Nat.add_zero] at hst
    have hturn := hr.turnRow (k := k) (o' := { o with row := { o.row with xs := o.row.xs.set i (splice x off cs) } }) ho (w' := w.setRow b (cur.toList.take (i * o.row.size + off) ++ uv.cells.toList ++ cur.toList.drop (i * o.row.size + off + uv.cells.toList.length)).toArray)
      (by rw [hb]; exact Turns.setRow _ _ _) (Nat.le_refl _) rfl (fun _ => ⟨rfl, rfl, by simp⟩) (fun g hg => .inl hg) (fun hmono => by
        have hdp : DeepOK (w.setRow b (cur.toList.take (i * o.row.size + off) ++ uv.cells.toList ++ cur.toList.drop (i * o.row.size + off + uv.cells.toList.length)).toArray) { o with row := { o.row with xs := o.row.xs.set i (splice x off cs) } } := by
          obtain ⟨D, d1, d2, d3⟩ := hok.deep
          refine ⟨D, d1, d2, fun b' hb' cur' el l hcur' i' y j e s' ys hy hc => ?_⟩
          simp only at hb' hy ⊢
          rw [hb] at hb'; cases hb'
          rw [setRow_heap w b cur _ _ _ hcur] at hcur'
          cases hcur'
          have hold : ∃ y0, o.row.xs[i']? = some y0 ∧ y0[j]? = some (.dv e s' ys) ∧ (i' ≠ i ∨ j < off ∨ off + cs.length ≤ j) := by
            by_cases hii : i' = i
            · subst hii
              rw [List.getElem?_set_self hil, Option.some.injEq] at hy
              subst hy
              rw [splice_get _ _ _ _ (by omega)] at hc
              by_cases hj1 : j < off
              · rw [if_pos hj1] at hc; exact ⟨x, hx, hc, .inr (.inl hj1)⟩
              · rw [if_neg hj1] at hc
                by_cases hj2 : j < off + cs.length
                · rw [if_pos hj2] at hc
                  have := hleaf _ (List.mem_of_getElem? hc)
                  simp [AV.leaf] at this
                · rw [if_neg hj2] at hc; exact ⟨x, hx, hc, .inr (.inr (by omega))⟩
            · rw [List.getElem?_set_ne (Ne.symm hii)] at hy
              exact ⟨y, hy, hc, .inl hii⟩
          obtain ⟨y0, hy0, hc0, hne⟩ := hold
          obtain ⟨u, q1, q2⟩ := d3 b hb cur _ _ hcur i' y0 j e s' ys hy0 hc0
          have hjl : j < o.row.size := by rw [← (hok.lens y0 (List.mem_of_getElem? hy0)).1]; exact (List.getElem?_eq_some_iff.1 hc0).1
          refine ⟨u, ?_, repD_mono (fun _ h => h) (fun c hcm => setRow_other w b c _ fun e => ?_) _ u q2⟩
          · rw [setSeg_get hbound, hulen]
            rcases Nat.lt_trichotomy i' i with hlt | hii | hgt
            · have : (i' + 1) * o.row.size ≤ i * o.row.size := Nat.mul_le_mul_right _ hlt
              rw [Nat.add_mul] at this
              rw [if_pos (by omega)]; exact q1
            · subst hii
              rcases hne with hne | hne | hne
              · exact absurd rfl hne
              · rw [if_pos (by omega)]; exact q1
              · rw [if_neg (by omega), if_neg (by omega)]; exact q1
            · have : (i + 1) * o.row.size ≤ i' * o.row.size := Nat.mul_le_mul_right _ hgt
              rw [Nat.add_mul] at this
              rw [if_neg (by omega), if_neg (by omega)]; exact q1
          · subst e
            exact (hok.mo _ (d1 _ _ _ hcm)).2.2 hb
        refine ⟨hok.pos, fun y hy => ?_, (fun hn => by rw [hb] at hn; cases hn), fun b' hb' => ?_, fun g hg => ⟨(hok.mo g hg).1, by simpa using (hok.mo g hg).2.1, (hok.mo g hg).2.2⟩, hdp⟩
        · rcases List.mem_or_eq_of_mem_set hy with hy | rfl
          · exact hok.lens y hy
          · refine ⟨splice_length hxl (by simpa using hfit), fun c hc => ?_⟩
            unfold splice at hc
            simp only [List.mem_append] at hc
            rcases hc with (hc | hc) | hc
            · exact (hok.lens x (List.mem_of_getElem? hx)).2 c (List.mem_of_mem_take hc)
            · exact AV.kept_leaf (hleaf c hc)
            · exact (hok.lens x (List.mem_of_getElem? hx)).2 c (List.mem_of_mem_drop hc)
        · rw [hb] at hb'; cases hb'
          refine ⟨hnF, _, setRow_heap w b cur _ _ _ hcur, ?_, by simpa using hle, hmax, fun i' y hy j c hc => ?_⟩
          · simp only [List.size_toArray, List.length_append, List.length_take, List.length_drop, Array.length_toList] at *
            omega
          · simp only at hy ⊢
            rw [setSeg_get hbound]
            by_cases hii : i' = i
            · subst hii
              rw [List.getElem?_set_self hil, Option.some.injEq] at hy
              subst hy
              rw [splice_get _ _ _ _ (by omega)] at hc
              by_cases hj1 : j < off
              · rw [if_pos hj1] at hc
                obtain ⟨u, h1, h2⟩ := hcells _ _ hx j c hc
                exact ⟨u, by rw [if_pos (by omega)]; exact h1, hmono _ _ h2⟩
              · rw [if_neg hj1] at hc
                by_cases hj2 : j < off + cs.length
                · rw [if_pos hj2] at hc
                  obtain ⟨u, h1, h2⟩ := repL_get hrl _ _ hc
                  refine ⟨u, ?_, hmono _ _ h2⟩
                  rw [if_neg (by omega), if_pos (by rw [hulen]; omega), ← h1]
                  congr 1; omega
                · rw [if_neg hj2] at hc
                  obtain ⟨u, h1, h2⟩ := hcells _ _ hx j c hc
                  exact ⟨u, by rw [if_neg (by omega), if_neg (by rw [hulen]; omega)]; exact h1, hmono _ _ h2⟩
            · rw [List.getElem?_set_ne (Ne.symm hii)] at hy
              obtain ⟨u, h1, h2⟩ := hcells _ _ hy j c hc
              have hjl : j < o.row.size := by rw [← (hok.lens y (List.mem_of_getElem? hy)).1]; exact (List.getElem?_eq_some_iff.1 hc).1
              refine ⟨u, ?_, hmono _ _ h2⟩
              rcases Nat.lt_or_gt_of_ne hii with hlt | hgt
              · have : (i' + 1) * o.row.size ≤ i * o.row.size := Nat.mul_le_mul_right _ hlt
                rw [Nat.add_mul] at this
                rw [if_pos (by omega)]; exact h1
              · have : (i + 1) * o.row.size ≤ i' * o.row.size := Nat.mul_le_mul_right _ hgt
                rw [Nat.add_mul] at this
                rw [if_neg (by omega), if_neg (by rw [hulen]; omega)]; exact h1)
    refine ⟨_, _, _, hk, ?_, hturn.1, hturn.2.1⟩
    have hszt : (sizeOf t).run P w = .ok ti.2 w := by simp [sizeOf, typeInfo, hi, e2]
    have : uv.cells.size = ti.2 := by rw [← hlen, ← hulen]; simp
    simp [Instr.storeAt, Instr.sureAddr, storeVar, hszt, this, hst]
  | _ => exact h.elim

theorem aMake_ok {t : TypeId} {l c : AV} {ul uc : Value} {K : AV → List Row → Prop} (hr : Rel F os s a w) (h : aMake P s.st t l c K) (hl : Rep F w os l ul) (hc : Rep F w os c uc) : Effects P k F os s a w (Instr.makeSlice t ul uc) K := by
  obtain ⟨ei, he, h⟩ := optK_elim h
  obtain ⟨inf, z, hu, hi, hz, hzs, hpos, hsz, hby, hzero, hzl⟩ := einfo_some he
  cases l with
  | int kl n =>
    cases c with
    | int kc m =>
      obtain ⟨rfl, h0, hb, hm, hk⟩ := h
      simp only [Rep] at hl hc
      subst hl; subst hc
      obtain ⟨N, rfl⟩ := Int.eq_ofNat_of_zero_le h0
      simp only [Int.toNat_natCast] at hk
      have hrun := run_make (P := P) w t ei.e inf z hu hi hz kl kc N N (by omega) (Int.le_refl _) (by rw [← hby, Int.mul_comm]; omega) (by omega)
      simp only [Int.toNat_natCast] at hrun
      have hzl' : ei.zero.length = ei.size := by rw [hzero, hsz, ← hzs]; simp
      have := hr.addRow (k := k) (.inl rfl) (cur := madeCells z.cells (N * inf.size)) (e := ei.e) (size := ei.size) (cap := N) (xs := List.replicate N ei.zero) (by omega)
        (fun x hx => by rw [List.mem_replicate] at hx; rw [hx.2]; exact ⟨hzl', hzl⟩) (by rw [size_madeCells, hsz]) (by simp) (by simp [maxLen]; omega) (fun i x hx j c hc => by
          rw [List.getElem?_replicate] at hx
          split at hx <;> simp only [Option.some.injEq, reduceCtorEq] at hx
          subst hx
          rename_i hiN
          have hjl : j < ei.size := by rw [← hzl']; exact (List.getElem?_eq_some_iff.1 hc).1
          have hj2 : j < z.cells.size := by omega
          refine ⟨z.cells[j], ?_, ?_⟩
          · have hlt : i * ei.size + j < N * inf.size := by
              have : (i + 1) * ei.size ≤ N * ei.size := Nat.mul_le_mul_right _ hiN
              rw [Nat.add_mul] at this; rw [← hsz]; omega
            have hmod : (i * ei.size + j) % z.cells.size = j := by rw [hzs, ← hsz, Nat.mul_comm, Nat.mul_add_mod]; exact Nat.mod_eq_of_lt hjl
            simp [madeCells, hlt, hmod, hj2]
          · rw [hzero] at hc
            simp only [List.getElem?_map, Array.getElem?_toList, Array.getElem?_eq_getElem hj2, Option.map_some, Option.some.injEq] at hc
            subst hc
            exact rep_ofLeafZ F w os _)
      refine ⟨_, _, _, _, _, hk, hrun, this.1, ?_, this.2.1⟩
      simp only [Rep]
      refine ⟨⟨⟨0, ei.e, ei.size, List.replicate N ei.zero⟩, some w.heap.size, N, none'⟩, by rw [hr.len]; simp, by simp, ⟨_, _, _, rfl⟩, fun _ => ⟨by simp, .inr ⟨_, rfl, rfl⟩⟩⟩
    | _ => exact h.elim
  | _ => cases c <;> exact h.elim

/-- The elements behind a slice, and where they lie. -/
structure Src (F : Nat → Prop) (w : World) (os : List Own) (u : Value) (ys : List (List AV)) (size : Nat) : Prop where
  shape : ∃ ad c, u = .slice ad ys.length c ∧ (ys = [] ∨ ∃ b o, ad = some ⟨b, o, none⟩ ∧ ∀ (i : Nat) y, ys[i]? = some y → CellsAt F w os b (o + i * size) y)

theorem aElems_ok {x : AV} {u : Value} {size : Nat} {K : List (List AV) → Prop} (hr : Rel F os s a w) (h : aElems s.st x fun ys => (∀ y ∈ ys, y.length = size) ∧ K ys) (hx : Rep F w os x u) : ∃ ys, K ys ∧ (∀ y ∈ ys, y.length = size) ∧ (ys = [] ∨ ∀ y ∈ ys, ∀ c ∈ y, c.leaf = true) ∧ Src F w os u ys size := by
  cases x with
  | sl ys =>
    obtain ⟨hsz, hk⟩ := h
    simp only [Rep] at hx
    obtain ⟨ad, cap, rfl, _, hne⟩ := hx
    by_cases he : ys = []
    · exact ⟨ys, hk, hsz, .inl he, ⟨ad, cap, rfl, .inl he⟩⟩
    · obtain ⟨b, o, sz, rfl, hb, hss, hrows⟩ := hne he
      refine ⟨ys, hk, hsz, .inr fun y hy c hc => ?_, ⟨_, cap, rfl, ?_⟩⟩
      · obtain ⟨i, hi⟩ := List.mem_iff_getElem?.1 hy
        obtain ⟨j, hj⟩ := List.mem_iff_getElem?.1 hc
        obtain ⟨_, _, h2, _⟩ := repCells_get (repRows_get hss hrows i y hi) j c hj
        exact h2
      have : sz = size := by
        obtain ⟨y, hy⟩ := List.exists_mem_of_ne_nil ys he
        rw [← hss y hy, hsz y hy]
      subst this
      exact .inr ⟨b, o, rfl, fun i y hy => cellsAt_pure (repRows_get hss hrows i y hy)⟩
  | zc =>
    obtain ⟨hsz, hk⟩ := h
    simp only [Rep] at hx
    obtain ⟨ad, rfl⟩ := hx
    exact ⟨[], hk, by simp, .inl rfl, ⟨ad, 0, rfl, .inl rfl⟩⟩
  | own id g n =>
    obtain ⟨row, hrow, hg, hlf, hsz, hk⟩ := optK_elim h
    obtain ⟨o, ho, rfl⟩ := hr.row hrow
    simp only [Rep] at hx
    obtain ⟨o', ho', hge, _, hx⟩ := hx
    rw [ho] at ho'; cases ho'
    obtain ⟨hle, hx⟩ := hx hg
    refine ⟨_, hk, hsz, .inr (fun y hy => hlf y (List.mem_of_mem_take hy)), ?_⟩
    have hlen : (o.row.xs.take n).length = n := by simp; omega
    rcases hx with ⟨hb, ad, rfl⟩ | ⟨b, hb, rfl⟩
    · have := ((hr.rows id o ho).none hb).1
      exact ⟨ad, 0, by rw [hlen], .inl (by rw [this]; simp)⟩
    · refine ⟨_, o.cap, by rw [hlen], .inr ⟨b, 0, rfl, fun i y hy => ?_⟩⟩
      have hy0 := hy
      rw [List.getElem?_take] at hy
      split at hy
      · have h1 := hr.rowCells ho hb hy
        have : o.row.size = size := by
          rw [← hsz y (List.mem_of_getElem? hy0)]
          exact (((hr.rows id o ho).lens y (List.mem_of_getElem? hy)).1).symm
        rw [this] at h1
        simpa using h1
      · cases hy
  | _ => exact h.elim

/-- All the cells of such a row of elements, one behind the other. -/
theorem cells_of {b o size : Nat} {ys : List (List AV)} (hsz : ∀ y ∈ ys, y.length = size) (h : ∀ (i : Nat) y, ys[i]? = some y → CellsAt F w os b (o + i * size) y) :
    ∃ us : List Value, us.length = ys.length * size ∧ (∀ (j : Nat) u, us[j]? = some u → w.cell? ((⟨b, o, none⟩ : Addr).add j) = some u) ∧ (∀ u ∈ us, u.oneCell' = true) ∧
      ∀ (i : Nat) y, ys[i]? = some y → ∀ (j : Nat) c, y[j]? = some c → ∃ u, us[i * size + j]? = some u ∧ c.kept = true ∧ Rep F w os c u := by
  have hat : ∀ j, j < ys.length * size → ∃ i y c, j = i * size + j % size ∧ ys[i]? = some y ∧ y[j % size]? = some c := fun j hj => by
    have hpos : 0 < size := Nat.pos_of_ne_zero (by rintro rfl; simp at hj)
    have hi : j / size < ys.length := by rw [Nat.div_lt_iff_lt_mul hpos]; exact hj
    have hjm : j % size < (ys[j / size]).length := by rw [hsz _ (List.getElem_mem hi)]; exact Nat.mod_lt _ hpos
    exact ⟨j / size, ys[j / size], (ys[j / size])[j % size], by rw [Nat.mul_comm]; exact (Nat.div_add_mod j size).symm, List.getElem?_eq_getElem hi, List.getElem?_eq_getElem hjm⟩
  refine ⟨(List.range (ys.length * size)).map fun j => (w.cell? ((⟨b, o, none⟩ : Addr).add j)).getD undef, by simp, fun j u hu => ?_, fun u hu => ?_, fun i y hy j c hc => ?_⟩
  · have hj : j < ys.length * size := by have := (List.getElem?_eq_some_iff.1 hu).1; simpa using this
    simp only [List.getElem?_map, List.getElem?_range hj, Option.map_some, Option.some.injEq] at hu
    obtain ⟨i, y, c, he, hy, hc⟩ := hat j hj
    obtain ⟨u', h1, _⟩ := h i y hy _ c hc
    rw [Addr.add_off, he, ← Nat.add_assoc] at hu ⊢
    rw [h1] at hu ⊢
    simp only [Option.getD_some] at hu
    rw [hu]
  · obtain ⟨j, hj, rfl⟩ := List.mem_map.1 hu
    rw [List.mem_range] at hj
    obtain ⟨i, y, c, he, hy, hc⟩ := hat j hj
    obtain ⟨u', h1, h2, h3⟩ := h i y hy _ c hc
    rw [Addr.add_off, he, ← Nat.add_assoc, h1]
    exact rep_oneCell' h2 h3
  · have hi := (List.getElem?_eq_some_iff.1 hy).1
    have hjl : j < size := by rw [← hsz y (List.mem_of_getElem? hy)]; exact (List.getElem?_eq_some_iff.1 hc).1
    obtain ⟨u, h1, h2, h3⟩ := h i y hy j c hc
    have hlt : i * size + j < ys.length * size := by
      have : (i + 1) * size ≤ ys.length * size := Nat.mul_le_mul_right _ hi
      rw [Nat.add_mul] at this; omega
    refine ⟨u, ?_, h2, h3⟩
    simp only [List.getElem?_map, List.getElem?_range hlt, Option.map_some, Addr.add_off, ← Nat.add_assoc, h1, Option.getD_some]

theorem lens_of {b o size : Nat} {ys : List (List AV)} (hsz : ∀ y ∈ ys, y.length = size) (h : ∀ (i : Nat) y, ys[i]? = some y → CellsAt F w os b (o + i * size) y) : ∀ y ∈ ys, y.length = size ∧ ∀ c ∈ y, c.kept = true := fun y hy => by
  refine ⟨hsz y hy, fun c hc => ?_⟩
  obtain ⟨i, hi⟩ := List.mem_iff_getElem?.1 hy
  obtain ⟨j, hj⟩ := List.mem_iff_getElem?.1 hc
  obtain ⟨_, _, h2, _⟩ := h i y hi j c hj
  exact h2

end Go.Abs

namespace Go.Abs
open Go

variable {P : Program} {F : Nat → Prop} {os : List Own} {s : St} {a : Act} {w : World} {k : Nat}

def RepFlat (F : Nat → Prop) (w : World) (os : List Own) (size : Nat) (us : List Value) (xs : List (List AV)) : Prop :=
  us.length = xs.length * size ∧ ∀ (i : Nat) x, xs[i]? = some x → ∀ (j : Nat) c, x[j]? = some c → ∃ u, us[i * size + j]? = some u ∧ Rep F w os c u

theorem RepFlat.nil {size : Nat} : RepFlat F w os size [] [] := ⟨by simp, by simp⟩

theorem RepFlat.append {size : Nat} {us vs : List Value} {xs ys : List (List AV)} (h : RepFlat F w os size us xs) (g : RepFlat F w os size vs ys) : RepFlat F w os size (us ++ vs) (xs ++ ys) := by
  refine ⟨by rw [List.length_append, List.length_append, h.1, g.1, Nat.add_mul], fun i x hi j c hc => ?_⟩
  by_cases hlt : i < xs.length
  · rw [List.getElem?_append_left hlt] at hi
    obtain ⟨u, h1, h2⟩ := h.2 i x hi j c hc
    exact ⟨u, by rw [List.getElem?_append_left (List.getElem?_eq_some_iff.1 h1).1]; exact h1, h2⟩
  · rw [List.getElem?_append_right (by omega)] at hi
    obtain ⟨u, h1, h2⟩ := g.2 _ x hi j c hc
    refine ⟨u, ?_, h2⟩
    have : xs.length * size ≤ i * size := Nat.mul_le_mul_right _ (by omega)
    rw [List.getElem?_append_right (by rw [h.1]; omega), ← h1, h.1]
    congr 1
    rw [Nat.sub_mul]; omega

/-- A row not yet laid. -/
theorem Rel.addNone (hr : Rel F os s a w) {e : TypeId} {size : Nat} (hpos : 0 < size) :
    let o : Own := ⟨⟨0, e, size, []⟩, none, 0, none'⟩
    Rel F (os ++ [o]) { s with st := s.st ++ [o.row] } a w ∧ Ext F os w F (os ++ [o]) w k ∧ (∀ x v, Rep F w os x v → Rep F w (os ++ [o]) x v) := by
  intro o
  have hget : ∀ (i : Nat) (oi : Own), (os ++ [o])[i]? = some oi → os[i]? = some oi ∨ (i = os.length ∧ oi = o) := fun i oi hi => by
    rcases Nat.lt_trichotomy i os.length with h | h | h
    · rw [List.getElem?_append_left h] at hi; exact .inl hi
    · subst h; simp at hi; exact .inr ⟨rfl, hi.symm⟩
    · rw [List.getElem?_append_right (by omega), List.getElem?_eq_none (by simp; omega)] at hi; cases hi
  have := hr.onto (k := k) (Turns.refl w none) (by simp) (os' := os ++ [o]) (HosLe.append os [o]) (fun i oi hi => by
      rcases hget i oi hi with h | ⟨_, rfl⟩
      · exact .inl ⟨h, by simp⟩
      · exact .inr ⟨hpos, by simp [o], by simp [o], by simp [o], fun g hg => hg.elim, DeepOK.flat (by simp [o])⟩)
    (fun i j oi oj g hi hj hgi hgj => by
      rcases hget i oi hi with h | ⟨h, rfl⟩ <;> rcases hget j oj hj with h' | ⟨h', rfl⟩
      · exact hr.inj i j oi oj g h h' hgi hgj
      · simp [o, Own.owns, none'] at hgj
      · simp [o, Own.owns, none'] at hgi
      · omega)
    (fun o' ho' g hg => by
      rcases List.mem_append.1 ho' with h | h
      · exact .inr ⟨o', h, hg⟩
      · simp only [List.mem_singleton] at h; subst h; simp [o, Own.owns, none'] at hg)
    (by simp)
  refine ⟨?_, this.2.1, this.2.2⟩
  have h1 := this.1
  rw [List.map_append, hr.st] at h1
  simpa using h1

theorem run_append_nothing {t ty e : TypeId} {i : TypeInfo} (ht : P.underlying t = some (.slice e)) (hi : P.info? e = some i) (base ad : Option Addr) (n cap c : Nat) (hn : n ≤ cap) :
    (Builtin.append_ #[t, t] ty #[.slice base n cap, .slice ad 0 c]).run P w = .ok (.slice base n cap) w := by
  have hf : (Builtin.firstCells i.size 0 (.slice ad 0 c)).run P w = .ok #[] w := by
    cases ad <;> simp [Builtin.firstCells, loadCells, loadCellsFrom]
  cases base <;> simp [Builtin.append_, run_underlying ht, sizeOf, typeInfo, hi, Builtin.lenOf, hn, hf, storeCells]

theorem new_get {α : Type} (l : List α) (x : α) : (l ++ [x])[l.length]? = some x := by simp

theorem grown_cells {size n m cap : Nat} {z : Value} (hzs : z.cells.size = size) {us vs : List Value} {xs ys : List (List AV)} (hxn : xs.length = n) (hyn : ys.length = m)
    (h : RepFlat F w os size us xs) (g : RepFlat F w os size vs ys) (hcap : n + m ≤ cap) :
    (us.toArray ++ vs.toArray ++ Builtin.zeroCells z.cells (cap - (n + m))).size = cap * size ∧
    ∀ (i : Nat) x, (xs ++ ys)[i]? = some x → ∀ (j : Nat) c, x[j]? = some c → ∃ u, (us.toArray ++ vs.toArray ++ Builtin.zeroCells z.cells (cap - (n + m)))[i * size + j]? = some u ∧ Rep F w os c u := by
  have hfl := RepFlat.append h g
  constructor
  · simp only [Array.size_append, List.size_toArray, size_zeroCells, hzs, h.1, g.1, hxn, hyn, ← Nat.add_mul]
    congr 1; omega
  · intro i x hi j c hc
    obtain ⟨u, h1, h2⟩ := hfl.2 i x hi j c hc
    refine ⟨u, ?_, h2⟩
    have hlt := (List.getElem?_eq_some_iff.1 h1).1
    rw [Array.getElem?_append_left (by simpa using hlt)]
    simpa using h1

theorem aAppend_ok {t ty : TypeId} {d x : AV} {ud ux : Value} {K : AV → List Row → Prop} (hr : Rel F os s a w) (h : aAppend P s.st t d x K) (hd : Rep F w os d ud) (hx : Rep F w os x ux) :
    Effects P k F os s a w (Builtin.append_ #[t, t] ty #[ud, ux]) K := by
  obtain ⟨ei, he, h⟩ := optK_elim h
  obtain ⟨inf, z, hu, hi, hz, hzs, hpos, hsz, hby, _, _⟩ := einfo_some he
  obtain ⟨ys, h, hys, hylf, ⟨ad, c, rfl, hsrc⟩⟩ := aElems_ok hr h hx
  have hylf : ∀ y ∈ ys, ∀ c ∈ y, c.leaf = true := by
    rcases hylf with rfl | h
    · simp
    · exact h
  -- the appended cells
  have hnews : 0 < ys.length → ∃ b o, ad = some ⟨b, o, none⟩ ∧ (∀ y ∈ ys, y.length = ei.size ∧ ∀ c ∈ y, c.leaf = true) ∧ ∃ us : List Value, us.length = ys.length * inf.size ∧ (∀ (j : Nat) u, us[j]? = some u → w.cell? ((⟨b, o, none⟩ : Addr).add j) = some u) ∧ (∀ u ∈ us, u.oneCell' = true) ∧ RepFlat F w os ei.size us ys := fun hp => by
    rcases hsrc with rfl | ⟨b, o, rfl, hc⟩
    · simp at hp
    · obtain ⟨us, h1, h2, h3, h4⟩ := cells_of hys hc
      refine ⟨b, o, rfl, fun y hy => ⟨hys y hy, hylf y hy⟩, us, by rw [h1, hsz], h2, h3, h1, fun i y hy j c hc => ?_⟩
      obtain ⟨u, e1, _, e2⟩ := h4 i y hy j c hc
      exact ⟨u, e1, e2⟩
  cases d with
  | zc =>
    obtain ⟨hb, hm, hk⟩ := h
    simp only [Rep] at hd
    obtain ⟨ad0, rfl⟩ := hd
    by_cases hm0 : ys.length = 0
    · have hys0 : ys = [] := List.eq_nil_of_length_eq_zero hm0
      subst hys0
      have := hr.addNone (k := k) (e := ei.e) (size := ei.size) (by omega)
      refine ⟨_, _, _, _, _, hk, run_append_nothing hu hi ad0 ad 0 0 c (Nat.le_refl _), this.1, ?_, this.2.1⟩
      simp only [Rep]
      exact ⟨⟨⟨0, ei.e, ei.size, []⟩, none, 0, none'⟩, by rw [hr.len]; simp, by simp, ⟨_, _, _, rfl⟩, fun _ => ⟨by simp, .inl ⟨rfl, _, rfl⟩⟩⟩
    · obtain ⟨b, o, rfl, hleaf, us, hul, hcell, hone, hrep⟩ := hnews (by omega)
      have hge := grownCap_ge w ys.length 0 ei.e
      have hle := grownCap_le_maxLen w ys.length 0 ei.e (by simp [maxLen]; omega)
      have hrun : (Builtin.append_ #[t, t] ty #[.slice ad0 0 0, .slice (some ⟨b, o, none⟩) ys.length c]).run P w = .ok (.slice (some ⟨w.heap.size, 0, none⟩) ys.length (grownCap w ys.length 0 ei.e))
          (w.drew.alloc (.cells (([] : List Value).toArray ++ us.toArray ++ Builtin.zeroCells z.cells (grownCap w ys.length 0 ei.e - (0 + ys.length))) ei.e)) := by
        cases ad0 with
        | none =>
          have := run_append_nil (P := P) w t ty ei.e inf z hu hi hz ⟨b, o, none⟩ ys.length c us hul hcell (by omega) (by omega) (by rw [← hby]; omega)
          simpa using this
        | some a0 =>
          have := run_append_grow (P := P) w t ty ei.e inf z hu hi hz a0 0 0 [] (by simp) (by simp) ⟨b, o, none⟩ ys.length c us hul hcell (by omega) (by omega) (growslice_fits (by omega) (by rw [← hby, Nat.zero_add]; exact hb))
          simpa using this
      obtain ⟨e1, e2⟩ := grown_cells (F := F) (w := w) (os := os) (z := z) (size := ei.size) (n := 0) (m := ys.length) (cap := grownCap w ys.length 0 ei.e) (by rw [hzs, hsz]) (by rfl) rfl RepFlat.nil hrep (by omega)
      have := hr.addRow (k := k) (.inr rfl) (cur := _) (e := ei.e) (size := ei.size) (cap := grownCap w ys.length 0 ei.e) (xs := ys) (by omega) hleaf e1 hge hle (fun i x hx j c hc => e2 i x (by simpa using hx) j c hc)
      refine ⟨_, _, _, _, _, hk, hrun, this.1, ?_, this.2.1⟩
      simp only [Rep]
      exact ⟨⟨⟨0, ei.e, ei.size, ys⟩, some w.heap.size, grownCap w ys.length 0 ei.e, none'⟩, by rw [hr.len]; exact new_get _ _, Nat.le_refl _, ⟨_, _, _, rfl⟩, fun _ => ⟨Nat.le_refl _, .inr ⟨_, rfl, rfl⟩⟩⟩
  | own id g n =>
    obtain ⟨row, hrow, hg, hel, hsize, hb, hm, hk⟩ := optK_elim h
    obtain ⟨o, ho, rfl⟩ := hr.row hrow
    simp only [Rep] at hd
    obtain ⟨o', ho', hge, _, hd⟩ := hd
    rw [ho] at ho'; cases ho'
    obtain ⟨hnl, hd⟩ := hd hg
    have hok := hr.rows id o ho
    have htk : (o.row.xs.take n).length = n := by simp; omega
    -- the cells that the row has
    have hset : ∀ o' : Own, (os.set id o')[id]? = some o' := fun o' => List.getElem?_set_self (List.getElem?_eq_some_iff.1 ho).1
    have hlens : ∀ x ∈ o.row.xs.take n, x.length = ei.size ∧ ∀ c ∈ x, c.kept = true := fun x hx => by
      have := hok.lens x (List.mem_of_mem_take hx)
      rw [hsize] at this; exact this
    by_cases hm0 : ys.length = 0
    · have hys0 : ys = [] := List.eq_nil_of_length_eq_zero hm0
      subst hys0
      have hturn := hr.turnRow (k := k) (o' := { o with row := { o.row with gen := g + 1, xs := o.row.xs.take n ++ [] } }) ho (w' := w) (Turns.refl w _) (by simp [hg]) rfl (fun e => by simp [hg] at e) (fun g hg => .inl hg) (fun hmono => by
        refine ⟨hok.pos, fun y hy => ?_, fun hn => ?_, fun b hb' => ?_, hok.mo, hok.deep.keep rfl (fun _ h => h) rfl (fun _ _ => rfl) (fun i x j e s ys hx hc => by
          simp only [List.append_nil, List.getElem?_take] at hx
          split at hx
          · exact ⟨x, hx, hc⟩
          · cases hx)⟩
        · simp only [List.append_nil] at hy; exact hok.lens y (List.mem_of_mem_take hy)
        · have := hok.none hn; simp [this.1, this.2]
        · obtain ⟨h1, cur, h2, h3, h4, h5, h6⟩ := hok.some b hb'
          refine ⟨h1, cur, h2, h3, by simp; omega, h5, fun i y hy j c hc => ?_⟩
          simp only [List.append_nil, List.getElem?_take] at hy
          split at hy
          · obtain ⟨u, e1, e2⟩ := h6 i y hy j c hc; exact ⟨u, e1, hmono _ _ e2⟩
          · cases hy)
      have hval : ∃ base cp, ud = .slice base n cp ∧ n ≤ cp ∧ ((o.blk = none ∧ ud = .slice base n 0) ∨ ∃ b, o.blk = some b ∧ ud = .slice (some ⟨b, 0, none⟩) n o.cap) := by
        rcases hd with ⟨hbn, a0, rfl⟩ | ⟨b, hbs, rfl⟩
        · have := hok.none hbn
          simp only [this.1, List.length_nil, Nat.le_zero] at hnl
          exact ⟨a0, 0, rfl, by omega, .inl ⟨hbn, rfl⟩⟩
        · obtain ⟨_, _, _, _, h4, _⟩ := hok.some b hbs
          exact ⟨_, o.cap, rfl, by omega, .inr ⟨b, hbs, rfl⟩⟩
      obtain ⟨base, cp, rfl, hncp, hv⟩ := hval
      refine ⟨_, _, _, _, _, hk, run_append_nothing hu hi base ad n cp c hncp, hturn.1, ?_, hturn.2.1⟩
      simp only [Rep]
      refine ⟨_, hset _, by simp, ⟨_, _, _, rfl⟩, fun _ => ⟨by simp; omega, ?_⟩⟩
      rcases hv with ⟨hbn, hv⟩ | ⟨b, hbs, hv⟩
      · exact .inl ⟨hbn, base, by simpa using hv⟩
      · exact .inr ⟨b, hbs, by simpa using hv⟩
    · obtain ⟨b, off, rfl, hleaf, us, hul, hcell, hone, hrep⟩ := hnews (by omega)
      have hgen : ∀ (cap : Nat) (olds : List Value), RepFlat F w os ei.size olds (o.row.xs.take n) → (∀ (b : Nat) (cur : Array Value) (k : Nat) (u : Value), o.blk = some b → w.heap[b]? = some (.cells cur o.row.elem (0, 0)) → k < n * ei.size → cur[k]? = some u → olds[k]? = some u) → n + ys.length ≤ cap → cap ≤ maxLen → 
          Rel F (os.set id ⟨⟨g + 1, o.row.elem, o.row.size, o.row.xs.take n ++ ys⟩, some w.heap.size, cap, o.more⟩) { s with st := s.st.set id ⟨g + 1, o.row.elem, o.row.size, o.row.xs.take n ++ ys⟩ } a (w.drew.alloc (.cells (olds.toArray ++ us.toArray ++ Builtin.zeroCells z.cells (cap - (n + ys.length))) ei.e)) ∧
          Ext F os w F (os.set id ⟨⟨g + 1, o.row.elem, o.row.size, o.row.xs.take n ++ ys⟩, some w.heap.size, cap, o.more⟩) (w.drew.alloc (.cells (olds.toArray ++ us.toArray ++ Builtin.zeroCells z.cells (cap - (n + ys.length))) ei.e)) k := fun cap olds hold holdv hcap hmax => by
        obtain ⟨e1, e2⟩ := grown_cells (F := F) (w := w) (os := os) (z := z) (size := ei.size) (n := n) (m := ys.length) (cap := cap) (by rw [hzs, hsz]) htk rfl hold hrep hcap
        have := hr.turnRow (k := k) (o' := ⟨⟨g + 1, o.row.elem, o.row.size, o.row.xs.take n ++ ys⟩, some w.heap.size, cap, o.more⟩) ho (w' := w.drew.alloc (.cells (olds.toArray ++ us.toArray ++ Builtin.zeroCells z.cells (cap - (n + ys.length))) ei.e)) (Turns.drewAlloc _ _ _) (by simp [hg]) rfl (fun e => by simp [hg] at e) (fun g hg => by
            rcases hg with hg | hg
            · simp only [Option.some.injEq] at hg; exact .inr (by omega)
            · exact .inl (.inr hg)) (fun hmono => by
          have hdp : DeepOK (w.drew.alloc (.cells (olds.toArray ++ us.toArray ++ Builtin.zeroCells z.cells (cap - (n + ys.length))) ei.e)) ⟨⟨g + 1, o.row.elem, o.row.size, o.row.xs.take n ++ ys⟩, some w.heap.size, cap, o.more⟩ := by
            obtain ⟨D, d1, d2, d3⟩ := hok.deep
            refine ⟨D, d1, d2, fun b' hb' cur' el l hcur' i y j e s' zs hy hc => ?_⟩
            simp only [Option.some.injEq] at hb' hy ⊢
            subst hb'
            have hnew := heap_alloc_new w.drew (.cells (olds.toArray ++ us.toArray ++ Builtin.zeroCells z.cells (cap - (n + ys.length))) ei.e)
            have hcur'' : some (Obj.cells (olds.toArray ++ us.toArray ++ Builtin.zeroCells z.cells (cap - (n + ys.length))) ei.e) = some (.cells cur' el l) := hnew.symm.trans hcur'
            cases hcur''
            have hin : i < n := by
              rcases Nat.lt_or_ge i n with h | h
              · exact h
              · rw [List.getElem?_append_right (by omega)] at hy
                have := hleaf y (List.mem_of_getElem? hy)
                have := this.2 _ (List.mem_of_getElem? hc)
                simp [AV.leaf] at this
            rw [List.getElem?_append_left (by omega), List.getElem?_take, if_pos hin] at hy
            have hbs : ∃ b, o.blk = some b := by
              cases hbk : o.blk with
              | none => have := (hok.none hbk).1; rw [this] at hy; simp at hy
              | some b => exact ⟨b, rfl⟩
            obtain ⟨b, hbs⟩ := hbs
            obtain ⟨_, cur, hcur, _⟩ := hok.some b hbs
            obtain ⟨u, q1, q2⟩ := d3 b hbs cur _ _ hcur i y j e s' zs hy hc
            have hjl : j < o.row.size := by rw [← (hok.lens y (List.mem_of_getElem? hy)).1]; exact (List.getElem?_eq_some_iff.1 hc).1
            have hkl : i * o.row.size + j < n * ei.size := by
              have : (i + 1) * o.row.size ≤ n * o.row.size := Nat.mul_le_mul_right _ hin
              rw [Nat.add_mul] at this; rw [← hsize]; omega
            have q3 := holdv b cur _ u hbs hcur hkl q1
            refine ⟨u, ?_, repD_mono (w := w) (fun _ h => h) (fun c hcm => heap_alloc_old w.drew _ (hok.mo _ (d1 _ _ _ hcm)).2.1) _ u q2⟩
            have hlt := (List.getElem?_eq_some_iff.1 q3).1
            rw [Array.getElem?_append_left (by simp; omega), Array.getElem?_append_left (by simpa using hlt)]
            simpa using q3
          refine ⟨hok.pos, fun y hy => ?_, by simp, fun b hb' => ?_, fun g hg => ⟨(hok.mo g hg).1, by have := (hok.mo g hg).2.1; simp; omega, fun e => by simp only [Option.some.injEq] at e; have := (hok.mo g hg).2.1; omega⟩, hdp⟩
          · rcases List.mem_append.1 hy with h | h
            · simp only [hsize]; exact hlens y h
            · simp only [hsize]; exact ⟨(hleaf y h).1, fun c hc => AV.kept_leaf ((hleaf y h).2 c hc)⟩
          · simp only [Option.some.injEq] at hb'
            subst hb'
            refine ⟨fun hF => absurd (hr.old _ hF) (Nat.lt_irrefl _), _, by rw [hel]; exact heap_alloc_new w.drew _, by simp only [hsize]; exact e1, by simp only [List.length_append, htk]; exact hcap, hmax, fun i y hy j c hc => ?_⟩
            obtain ⟨u, f1, f2⟩ := e2 i y hy j c hc
            exact ⟨u, by simpa only [hsize] using f1, hmono _ _ f2⟩)
        exact ⟨this.1, this.2.1⟩
      have hfin : ∀ cap, Rep F (w.drew.alloc (.cells #[] 0)) (os.set id ⟨⟨g + 1, o.row.elem, o.row.size, o.row.xs.take n ++ ys⟩, some w.heap.size, cap, o.more⟩) (.own id (g + 1) (n + ys.length)) (.slice (some ⟨w.heap.size, 0, none⟩) (n + ys.length) cap) := fun cap => by
        simp only [Rep]
        exact ⟨_, hset _, by simp, ⟨_, _, _, rfl⟩, fun _ => ⟨by simp only [List.length_append, htk]; omega, .inr ⟨_, rfl, rfl⟩⟩⟩
      have hge := grownCap_ge w (n + ys.length)
      have hlem := grownCap_le_maxLen w (n + ys.length)
      rcases hd with ⟨hbn, a0, rfl⟩ | ⟨b0, hbs, rfl⟩
      · have hn0 := hok.none hbn
        simp only [hn0.1, List.length_nil, Nat.le_zero] at hnl
        subst hnl
        have hrun : (Builtin.append_ #[t, t] ty #[.slice a0 0 0, .slice (some ⟨b, off, none⟩) ys.length c]).run P w = .ok (.slice (some ⟨w.heap.size, 0, none⟩) (0 + ys.length) (grownCap w (0 + ys.length) 0 ei.e))
            (w.drew.alloc (.cells (([] : List Value).toArray ++ us.toArray ++ Builtin.zeroCells z.cells (grownCap w (0 + ys.length) 0 ei.e - (0 + ys.length))) ei.e)) := by
          cases a0 with
          | none =>
            have := run_append_nil (P := P) w t ty ei.e inf z hu hi hz ⟨b, off, none⟩ ys.length c us hul hcell (by omega) (by omega) (by rw [← hby]; rw [Nat.zero_add] at hb; omega)
            simpa using this
          | some a0 =>
            have := run_append_grow (P := P) w t ty ei.e inf z hu hi hz a0 0 0 [] (by simp) (by simp) ⟨b, off, none⟩ ys.length c us hul hcell (by omega) (by omega) (growslice_fits (by omega) (by rw [← hby]; exact hb))
            simpa using this
        have hgg := hgen (grownCap w (0 + ys.length) 0 ei.e) [] (by simp [RepFlat]) (fun b cur k u hb => by rw [hbn] at hb; cases hb) (hge 0 ei.e) (hlem 0 ei.e (by simp [maxLen]; omega))
        exact ⟨_, _, _, _, _, hk, hrun, hgg.1, by simpa [Rep] using hfin _, hgg.2⟩
      · obtain ⟨hnF, cur, hcur, hcs, hlc, hmaxc, hcells⟩ := hok.some b0 hbs
        by_cases hroom : n + ys.length ≤ o.cap
        · have hfit : n * inf.size + us.length ≤ cur.size := by rw [hul, hcs, hsize, hsz, ← Nat.add_mul]; exact Nat.mul_le_mul_right _ hroom
          have hrun := run_append_room (P := P) w t ty ei.e inf hu hi b0 n o.cap cur (by rw [← hel]; exact hcur) ⟨b, off, none⟩ ys.length c us hul hcell hone hroom hfit
          have hset' := hr.turnRow (k := k) (o' := ⟨⟨g + 1, o.row.elem, o.row.size, o.row.xs.take n ++ ys⟩, some b0, o.cap, o.more⟩) ho (w' := w.setRow b0 (cur.toList.take (n * inf.size) ++ us ++ cur.toList.drop (n * inf.size + us.length)).toArray) (by rw [hbs]; exact Turns.setRow _ _ _) (by simp [hg]) rfl (fun e => by simp [hg] at e) (fun g hg => by
              rcases hg with hg | hg
              · simp only [Option.some.injEq] at hg; exact .inl (.inl (by rw [hbs, hg]))
              · exact .inl (.inr hg)) (fun hmono => by
            have hdp : DeepOK (w.setRow b0 (cur.toList.take (n * inf.size) ++ us ++ cur.toList.drop (n * inf.size + us.length)).toArray) ⟨⟨g + 1, o.row.elem, o.row.size, o.row.xs.take n ++ ys⟩, some b0, o.cap, o.more⟩ := by
              obtain ⟨D, d1, d2, d3⟩ := hok.deep
              refine ⟨D, d1, d2, fun b' hb' cur' el l hcur' i y j e s' zs hy hc => ?_⟩
              simp only [Option.some.injEq] at hb' hy ⊢
              subst hb'
              rw [setRow_heap w b0 cur _ _ _ hcur] at hcur'
              cases hcur'
              have hin : i < n := by
                rcases Nat.lt_or_ge i n with h | h
                · exact h
                · rw [List.getElem?_append_right (by omega)] at hy
                  have := hleaf y (List.mem_of_getElem? hy)
                  have := this.2 _ (List.mem_of_getElem? hc)
                  simp [AV.leaf] at this
              rw [List.getElem?_append_left (by omega), List.getElem?_take, if_pos hin] at hy
              obtain ⟨u, q1, q2⟩ := d3 b0 hbs cur _ _ hcur i y j e s' zs hy hc
              have hjl : j < o.row.size := by rw [← (hok.lens y (List.mem_of_getElem? hy)).1]; exact (List.getElem?_eq_some_iff.1 hc).1
              have hkl : i * o.row.size + j < n * inf.size := by
                have : (i + 1) * o.row.size ≤ n * o.row.size := Nat.mul_le_mul_right _ hin
                rw [Nat.add_mul] at this; rw [← hsz, ← hsize]; omega
              refine ⟨u, ?_, repD_mono (fun _ h => h) (fun c hcm => setRow_other w b0 c _ fun e => (hok.mo _ (d1 _ _ _ hcm)).2.2 (by rw [hbs, e])) _ u q2⟩
              rw [setSeg_get hfit, if_pos hkl]; exact q1
            refine ⟨hok.pos, fun y hy => ?_, by simp, fun b hb' => ?_, fun g hg => ⟨(hok.mo g hg).1, by simpa using (hok.mo g hg).2.1, by rw [← hbs]; exact (hok.mo g hg).2.2⟩, hdp⟩
            · rcases List.mem_append.1 hy with h | h
              · simp only [hsize]; exact hlens y h
              · simp only [hsize]; exact ⟨(hleaf y h).1, fun c hc => AV.kept_leaf ((hleaf y h).2 c hc)⟩
            · simp only [Option.some.injEq] at hb'
              subst hb'
              refine ⟨hnF, _, setRow_heap w b0 cur _ _ _ hcur, ?_, by simp only [List.length_append, htk]; exact hroom, hmaxc, fun i y hy j c hc => ?_⟩
              · simp only [List.size_toArray, List.length_append, List.length_take, List.length_drop, Array.length_toList] at hfit ⊢
                rw [← hcs]; omega
              · simp only at hy ⊢
                rw [setSeg_get hfit]
                by_cases hin : i < n
                · rw [List.getElem?_append_left (by omega), List.getElem?_take, if_pos hin] at hy
                  obtain ⟨u, f1, f2⟩ := hcells i y hy j c hc
                  have hjl : j < o.row.size := by rw [← (hok.lens y (List.mem_of_getElem? hy)).1]; exact (List.getElem?_eq_some_iff.1 hc).1
                  have : (i + 1) * o.row.size ≤ n * o.row.size := Nat.mul_le_mul_right _ hin
                  rw [Nat.add_mul] at this
                  refine ⟨u, ?_, hmono _ _ f2⟩
                  rw [if_pos (by rw [← hsz, ← hsize]; omega)]; exact f1
                · rw [List.getElem?_append_right (by omega), htk] at hy
                  obtain ⟨u, f1, f2⟩ := hrep.2 _ y hy j c hc
                  refine ⟨u, ?_, hmono _ _ f2⟩
                  have hlt := (List.getElem?_eq_some_iff.1 f1).1
                  have h3 : n * o.row.size ≤ i * o.row.size := Nat.mul_le_mul_right _ (by omega)
                  rw [Nat.sub_mul] at f1 hlt
                  rw [← hsize] at f1 hlt
                  rw [if_neg (by rw [← hsz, ← hsize]; omega), if_pos (by rw [← hsz, ← hsize]; omega), ← f1]
                  congr 1
                  rw [← hsz, ← hsize]; omega)
          refine ⟨_, _, _, _, _, hk, hrun, hset'.1, ?_, hset'.2.1⟩
          simp only [Rep]
          exact ⟨_, hset _, by simp, ⟨_, _, _, rfl⟩, fun _ => ⟨by simp only [List.length_append, htk]; omega, .inr ⟨_, rfl, rfl⟩⟩⟩
        · -- the cells that were there, as a list
          have hold : ∀ (i : Nat) y, (o.row.xs.take n)[i]? = some y → CellsAt F w os b0 (0 + i * ei.size) y := fun i y hy => by
            rw [List.getElem?_take] at hy
            split at hy
            · have := hr.rowCells ho hbs hy; rw [hsize] at this; simpa using this
            · cases hy
          obtain ⟨olds, h1, h2, _, h4⟩ := cells_of (fun x hx => (hlens x hx).1) hold
          have hrun := run_append_grow (P := P) w t ty ei.e inf z hu hi hz ⟨b0, 0, none⟩ n o.cap olds (by rw [h1, htk, hsz]) h2 ⟨b, off, none⟩ ys.length c us hul hcell (by omega) (by omega) (growslice_fits (by omega) (by rw [← hby]; exact hb))
          have hgg := hgen (grownCap w (n + ys.length) o.cap ei.e) olds ⟨h1, fun i y hy j c hc => by obtain ⟨u, f1, _, f2⟩ := h4 i y hy j c hc; exact ⟨u, f1, f2⟩⟩ (fun b cur' k u hb' hcur' hk q => by
            rw [hbs] at hb'; cases hb'
            rw [hcur] at hcur'; cases hcur'
            have hkl : k < olds.length := by rw [h1, htk]; exact hk
            have := h2 k _ (List.getElem?_eq_getElem hkl)
            rw [Addr.add_off, cell_of_row w b0 _ cur _ _ hcur, Nat.zero_add, q] at this
            rw [List.getElem?_eq_getElem hkl, ← this]) (hge o.cap ei.e) (hlem o.cap ei.e (by simp [maxLen]; omega))
          exact ⟨_, _, _, _, _, hk, hrun, hgg.1, by simpa [Rep] using hfin _, hgg.2⟩
  | _ => exact h.elim

end Go.Abs

namespace Go.Abs
open Go

variable {P : Program} {F : Nat → Prop} {os : List Own} {s : St} {a : Act} {w : World} {k : Nat}

/-! ### Slices of slices -/

def bnd (o : Option AV) (d : Int) : Option Int :=
  match o with
  | none => some d
  | some (.int _ j) => some j
  | _ => none

def aSlice (P : Program) (st : List Row) (t : TypeId) (x : AV) (lo hi mx : Option AV) (K : AV → List Row → Prop) : Prop :=
  optK (einfo P t) fun ei => match mx with
    | some (.int _ m) => m = 0 ∧ lo = none ∧ (match hi with | some (.int _ j) => j = 0 | _ => False) ∧ (match x with | .sl _ | .zc => K .zc st | .own id g _ => optK st[id]? fun row => row.gen = g ∧ K .zc st | _ => False)
    | some _ => False
    | none => match x with
      | .own id g n => optK st[id]? fun row => row.gen = g ∧ bnd lo 0 = some 0 ∧ optK (bnd hi n) fun j => 0 ≤ j ∧ j ≤ n ∧ K (.own id (g + 1) j.toNat) (st.set id { row with gen := g + 1, xs := row.xs.take j.toNat })
      | .sl xs => optK (bnd lo 0) fun l => optK (bnd hi xs.length) fun h => 0 ≤ l ∧ l ≤ h ∧ h ≤ xs.length ∧ (∀ x ∈ xs, x.length = ei.size) ∧ K (.sl ((xs.take h.toNat).drop l.toNat)) st
      | .zc => optK (bnd lo 0) fun l => optK (bnd hi 0) fun h => l = 0 ∧ h = 0 ∧ K .zc st
      | _ => False

theorem run_sliceAt {t e : TypeId} {inf : TypeInfo} (hu : P.underlying t = some (.slice e)) (hi : P.info? e = some inf) (ad : Option Addr) (n cap l h : Nat) (lo hi' : Option Value)
    (hlo : (lo = none ∧ l = 0) ∨ ∃ kk, lo = some (.int kk l)) (hhi : (hi' = none ∧ h = n) ∨ ∃ kk, hi' = some (.int kk h)) (hl : l ≤ h) (hc : h ≤ cap) :
    (Instr.sliceAt t (.slice ad n cap) lo hi' none).run P w = .ok (.slice (if cap = l then ad else ad.map (·.add (l * inf.size))) (h - l) (cap - l)) w := by
  have e1 : ∀ kk, (Instr.sliceBound (.int kk (h : Int)) cap (.sliceAcap)).run P w = .ok h w := fun kk => by simp [Instr.sliceBound, asIntOf, hc]
  have e2 : ∀ kk, (Instr.sliceBound (.int kk (l : Int)) h (.sliceB)).run P w = .ok l w := fun kk => by simp [Instr.sliceBound, asIntOf, hl]
  rcases hlo with ⟨rfl, rfl⟩ | ⟨kl, rfl⟩ <;> rcases hhi with ⟨rfl, rfl⟩ | ⟨kh, rfl⟩ <;>
    simp [Instr.sliceAt, run_underlying hu, Instr.slice, Instr.sliceBounds, sizeOf, typeInfo, hi, e1, e2]

def RepO (F : Nat → Prop) (w : World) (os : List Own) : Option AV → Option Value → Prop
  | none, none => True
  | some x, some u => Rep F w os x u
  | _, _ => False

theorem rep_bnd {o : Option AV} {uo : Option Value} {d j : Int} (h : bnd o d = some j) (hr : RepO F w os o uo) : (uo = none ∧ o = none ∧ j = d) ∨ ∃ kk, uo = some (.int kk j) := by
  unfold bnd at h
  split at h
  · simp only [Option.some.injEq] at h
    cases uo with
    | none => exact .inl ⟨rfl, rfl, h.symm⟩
    | some u => exact hr.elim
  · simp only [Option.some.injEq] at h
    subst h
    cases uo with
    | none => exact hr.elim
    | some u => simp only [RepO, Rep] at hr; exact .inr ⟨_, by rw [hr]⟩
  · cases h

theorem aSlice_ok {t : TypeId} {x : AV} {ux : Value} {lo hi mx : Option AV} {ulo uhi umx : Option Value} {K : AV → List Row → Prop} (hr : Rel F os s a w) (h : aSlice P s.st t x lo hi mx K) (hx : Rep F w os x ux)
    (hlo : RepO F w os lo ulo) (hhi : RepO F w os hi uhi) (hmx : RepO F w os mx umx) : Effects P k F os s a w (Instr.sliceAt t ux ulo uhi umx) K := by
  obtain ⟨ei, he, h⟩ := optK_elim h
  obtain ⟨inf, z, hu, hi', _, _, hpos, hsz, _⟩ := einfo_some he
  cases mx with
  | some m =>
    cases m with
    | int km m =>
      obtain ⟨rfl, rfl, hh, h9⟩ := h
      cases hi with
      | none => exact hh.elim
      | some hv =>
        cases hv with
        | int kh j =>
          simp only at hh
          subst hh
          cases ulo with
          | some _ => exact hlo.elim
          | none =>
            cases uhi with
            | none => exact hhi.elim
            | some uh =>
              cases umx with
              | none => exact hmx.elim
              | some um =>
                simp only [RepO, Rep] at hhi hmx
                subst hhi; subst hmx
                have hrun : ∀ ad n c, (Instr.sliceAt t (.slice ad n c) none (some (.int kh 0)) (some (.int km 0))).run P w = .ok (.slice ad 0 0) w := fun ad n c => by
                  simp [Instr.sliceAt, run_underlying hu, Instr.slice, Instr.sliceBounds, Instr.sliceBound, asIntOf, sizeOf, typeInfo, hi']
                have hfin : ∀ ad n c, K .zc s.st → Effects P k F os s a w (Instr.sliceAt t (.slice ad n c) none (some (.int kh 0)) (some (.int km 0))) K := fun ad n c hk =>
                  ⟨_, _, _, _, os, hk, hrun ad n c, hr, by simp [Rep], Ext.refl _ _ _ _⟩
                cases x with
                | sl xs => simp only [Rep] at hx; obtain ⟨ad, cap, rfl, _⟩ := hx; exact hfin _ _ _ h9
                | zc => simp only [Rep] at hx; obtain ⟨ad, rfl⟩ := hx; exact hfin _ _ _ h9
                | own id g n =>
                  obtain ⟨row, hrow, hg, hk⟩ := optK_elim h9
                  simp only [Rep] at hx
                  obtain ⟨o, ho, _, ⟨ad, l, c, rfl⟩, _⟩ := hx
                  exact hfin _ _ _ hk
                | _ => exact h9.elim
        | _ => exact hh.elim
    | _ => exact h.elim
  | none =>
    cases umx with
    | some _ => exact hmx.elim
    | none =>
      cases x with
      | own id g n =>
        obtain ⟨row, hrow, hg, hl0, h⟩ := optK_elim h
        obtain ⟨j, hj, h0, hjn, hk⟩ := optK_elim h
        obtain ⟨o, ho, rfl⟩ := hr.row hrow
        obtain ⟨J, rfl⟩ := Int.eq_ofNat_of_zero_le h0
        simp only [Int.toNat_natCast] at hk
        simp only [Rep] at hx
        obtain ⟨o', ho', hge, _, hx⟩ := hx
        rw [ho] at ho'; cases ho'
        obtain ⟨hnl, hx⟩ := hx hg
        have hok := hr.rows id o ho
        have h1 := rep_bnd (F := F) (w := w) (os := os) (uo := ulo) hl0 hlo
        have h2 := rep_bnd (F := F) (w := w) (os := os) (uo := uhi) hj hhi
        have hset : ∀ o' : Own, (os.set id o')[id]? = some o' := fun o' => List.getElem?_set_self (List.getElem?_eq_some_iff.1 ho).1
        have hturn := hr.turnRow (k := k) (o' := { o with row := { o.row with gen := g + 1, xs := o.row.xs.take J } }) ho (w' := w) (Turns.refl w _) (by simp [hg]) rfl (fun e => by simp [hg] at e) (fun g hg => .inl hg) (fun hmono => by
          refine ⟨hok.pos, fun y hy => hok.lens y (List.mem_of_mem_take hy), fun hn => ?_, fun b hb' => ?_, hok.mo, hok.deep.keep rfl (fun _ h => h) rfl (fun _ _ => rfl) (fun i x j e s ys hx hc => by
            simp only [List.getElem?_take] at hx
            split at hx
            · exact ⟨x, hx, hc⟩
            · cases hx)⟩
          · have := hok.none hn; simp [this.1, this.2]
          · obtain ⟨h1, cur, h2, h3, h4, h5, h6⟩ := hok.some b hb'
            refine ⟨h1, cur, h2, h3, by simp; omega, h5, fun i y hy j c hc => ?_⟩
            simp only [List.getElem?_take] at hy
            split at hy
            · obtain ⟨u, e1, e2⟩ := h6 i y hy j c hc; exact ⟨u, e1, hmono _ _ e2⟩
            · cases hy)
        have hrun : ∀ ad cap, n ≤ cap → (Instr.sliceAt t (.slice ad n cap) ulo uhi none).run P w = .ok (.slice ad J cap) w := fun ad cap hcap => by
          have := run_sliceAt (P := P) (w := w) hu hi' ad n cap 0 J ulo uhi (by rcases h1 with ⟨e, _, _⟩ | ⟨kk, e⟩; exact .inl ⟨e, rfl⟩; exact .inr ⟨kk, by simpa using e⟩)
            (by rcases h2 with ⟨e, _, e2⟩ | ⟨kk, e⟩; exact .inl ⟨e, by omega⟩; exact .inr ⟨kk, e⟩) (Nat.zero_le _) (by omega)
          rw [this]
          cases ad with
          | none => simp
          | some ad => simp [Addr.add]
        rcases hx with ⟨hbn, ad, rfl⟩ | ⟨b, hbs, rfl⟩
        · have hn0 := hok.none hbn
          simp only [hn0.1, List.length_nil, Nat.le_zero] at hnl
          subst hnl
          have hJ : J = 0 := by omega
          subst hJ
          refine ⟨_, _, _, _, _, hk, hrun _ _ (Nat.le_refl _), hturn.1, ?_, hturn.2.1⟩
          simp only [Rep]
          exact ⟨_, hset _, Nat.le_refl _, ⟨_, _, _, rfl⟩, fun _ => ⟨Nat.zero_le _, .inl ⟨hbn, _, rfl⟩⟩⟩
        · obtain ⟨_, _, _, _, h4, _⟩ := hok.some b hbs
          refine ⟨_, _, _, _, _, hk, hrun _ _ (by omega), hturn.1, ?_, hturn.2.1⟩
          simp only [Rep]
          exact ⟨_, hset _, Nat.le_refl _, ⟨_, _, _, rfl⟩, fun _ => ⟨by simp; omega, .inr ⟨b, hbs, rfl⟩⟩⟩
      | sl xs =>
        obtain ⟨l, hl, h⟩ := optK_elim h
        obtain ⟨h', hh, h0, hlh, hhn, hel, hk⟩ := optK_elim h
        obtain ⟨L, rfl⟩ := Int.eq_ofNat_of_zero_le h0
        obtain ⟨H, rfl⟩ := Int.eq_ofNat_of_zero_le (Int.le_trans h0 hlh)
        simp only [Int.toNat_natCast] at hk
        have h1 := rep_bnd (F := F) (w := w) (os := os) (uo := ulo) hl hlo
        have h2 := rep_bnd (F := F) (w := w) (os := os) (uo := uhi) hh hhi
        simp only [Rep] at hx
        obtain ⟨ad, cap, rfl, hcap, hne⟩ := hx
        have hrun := run_sliceAt (P := P) (w := w) hu hi' ad xs.length cap L H ulo uhi (by rcases h1 with ⟨e, _, e2⟩ | ⟨kk, e⟩; exact .inl ⟨e, by omega⟩; exact .inr ⟨kk, e⟩)
          (by rcases h2 with ⟨e, _, e2⟩ | ⟨kk, e⟩; exact .inl ⟨e, by omega⟩; exact .inr ⟨kk, e⟩) (by omega) (by omega)
        refine ⟨_, _, _, _, os, hk, hrun, hr, ?_, Ext.refl _ _ _ _⟩
        simp only [Rep]
        have hlen : ((xs.take H).drop L).length = H - L := by simp; omega
        refine ⟨_, _, by rw [hlen], by omega, fun hne' => ?_⟩
        have hlt : L < H := by
          rcases Nat.lt_or_ge L H with h | h
          · exact h
          · exact absurd (List.eq_nil_of_length_eq_zero (by omega)) hne'
        obtain ⟨b, o, size, rfl, hb, hss, hrows⟩ := hne (by intro e; subst e; simp at hhn; omega)
        have hL : L < xs.length := by omega
        have hsize : size = inf.size := by rw [← hsz, ← hel _ (List.getElem_mem hL)]; exact (hss _ (List.getElem_mem hL)).symm
        subst hsize
        refine ⟨b, o + L * inf.size, inf.size, ?_, hb, fun x hx => hss x (List.mem_of_mem_take (List.mem_of_mem_drop hx)), repRows_mk (fun x hx => hss x (List.mem_of_mem_take (List.mem_of_mem_drop hx))) fun i x hx => ?_⟩
        · rw [if_neg (by omega)]; simp [Addr.add_off]
        · rw [List.getElem?_drop, List.getElem?_take] at hx
          split at hx
          · have := repRows_get hss hrows _ x hx
            rwa [Nat.add_mul, ← Nat.add_assoc] at this
          · cases hx
      | zc =>
        obtain ⟨l, hl, h⟩ := optK_elim h
        obtain ⟨h', hh, rfl, rfl, hk⟩ := optK_elim h
        have h1 := rep_bnd (F := F) (w := w) (os := os) (uo := ulo) hl hlo
        have h2 := rep_bnd (F := F) (w := w) (os := os) (uo := uhi) hh hhi
        simp only [Rep] at hx
        obtain ⟨ad, rfl⟩ := hx
        have hrun := run_sliceAt (P := P) (w := w) hu hi' ad 0 0 0 0 ulo uhi (by rcases h1 with ⟨e, _, e2⟩ | ⟨kk, e⟩; exact .inl ⟨e, rfl⟩; exact .inr ⟨kk, e⟩)
          (by rcases h2 with ⟨e, _, e2⟩ | ⟨kk, e⟩; exact .inl ⟨e, rfl⟩; exact .inr ⟨kk, e⟩) (by omega) (by omega)
        exact ⟨_, _, _, _, os, hk, hrun, hr, by simp [Rep], Ext.refl _ _ _ _⟩
      | _ => exact h.elim

/-! ### Literals of structs and slices -/

def afill (place : Nat → Option (Nat × Nat)) : List AV → List (Nat × AV) → Option (List AV)
  | cells, [] => some cells
  | cells, (i, v) :: r => match place i with
    | none => none
    | some (off, sz) => match cellsV v with
      | none => none
      | some cs => if cs.length = sz ∧ off + sz ≤ cells.length then afill place (splice cells off cs) r else none

def finfos (P : Program) (t : TypeId) : Option (List (Nat × Nat)) :=
  match P.underlying t with
  | some (.struct fs) => some (fs.toList.map fun f => (f.offset, P.cellsOf f.type))
  | _ => none

def allInfo (P : Program) (t : TypeId) : Bool :=
  match P.underlying t with
  | some (.struct fs) => fs.all fun f => (P.info? f.type).isSome
  | _ => false

def aBuild (P : Program) (t : TypeId) (parts : List (Nat × AV)) (K : AV → Prop) : Prop :=
  allInfo P t = true ∧ optK (finfos P t) fun fs => optK (zinfo P t) fun z => optK (afill (fs[·]?) z parts) fun cs => K (.agg cs)

def chunk (size : Nat) : Nat → List AV → List (List AV)
  | 0, _ => []
  | n + 1, cs => cs.take size :: chunk size n (cs.drop size)

def aBuildSlice (P : Program) (st : List Row) (t : TypeId) (len : Nat) (parts : List (Nat × AV)) (K : AV → List Row → Prop) : Prop :=
  optK (einfo P t) fun ei => len * ei.size ≤ 16777216 ∧ optK (afill (fun i => some (i * ei.size, ei.size)) ((List.replicate len ei.zero).flatten) parts) fun cs =>
    K (.own st.length 0 len) (st ++ [⟨0, ei.e, ei.size, chunk ei.size len cs⟩])

theorem repL_splice {cells cs : List AV} {us vs : List Value} {off : Nat} (h1 : RepL F w os cells us) (h2 : RepL F w os cs vs) (hle : off + cs.length ≤ cells.length) :
    RepL F w os (splice cells off cs) (us.take off ++ vs ++ us.drop (off + vs.length)) := by
  have l1 := repL_length h1
  have l2 := repL_length h2
  refine repL_mk (by simp [splice]; omega) fun i x u hx hu => ?_
  rw [splice_get _ _ _ _ (by omega)] at hx
  have hu' : (us.take off ++ vs ++ us.drop (off + vs.length))[i]? = if i < off then us[i]? else if i < off + vs.length then vs[i - off]? else us[i]? := by
    have := setSeg_get (cur := us.toArray) (us := vs) (p := off) (j := i) (by simp; omega)
    simpa using this
  rw [hu'] at hu
  rw [l2] at hu
  split at hx
  · rename_i hi; rw [if_pos hi] at hu
    obtain ⟨u', e1, e2⟩ := repL_get h1 i x hx
    rw [e1] at hu; cases hu; exact e2
  · rename_i hi
    rw [if_neg hi] at hu
    split at hx
    · rename_i hi2; rw [if_pos hi2] at hu
      obtain ⟨u', e1, e2⟩ := repL_get h2 _ x hx
      rw [e1] at hu; cases hu; exact e2
    · rename_i hi2; rw [if_neg hi2] at hu
      obtain ⟨u', e1, e2⟩ := repL_get h1 i x hx
      rw [e1] at hu; cases hu; exact e2

theorem fold_set (off : Nat) : ∀ (vs : List Value) (j : Nat) (us : List Value), off + j + vs.length ≤ us.length →
    ((vs.zipIdx j).foldl (fun (cs : Array Value) (c : Value × Nat) => cs.setIfInBounds (off + c.2) c.1) us.toArray) = (us.take (off + j) ++ vs ++ us.drop (off + j + vs.length)).toArray
  | [], j, us, _ => by simp
  | v :: vs, j, us, h => by
    simp only [List.length_cons] at h
    simp only [List.zipIdx_cons, List.foldl_cons, List.setIfInBounds_toArray]
    rw [fold_set off vs (j + 1) (us.set (off + j) v) (by simp; omega)]
    congr 1
    have e := list_seg_step us (off + j) v vs (by omega)
    simpa [Nat.add_assoc] using e

theorem afill_ok (place : Nat → Option (Nat × Nat)) : ∀ (parts : List (Nat × AV)) (uparts : List (Nat × Value)) (cells cells' : List AV) (us : List Value), uparts.map (·.1) = parts.map (·.1) →
    (∀ (i : Nat) p up, parts[i]? = some p → uparts[i]? = some up → Rep F w os p.2 up.2) → RepL F w os cells us → afill place cells parts = some cells' →
    ∃ us' : List Value, Instr.fill place us.toArray uparts = some us'.toArray ∧ RepL F w os cells' us' ∧ us'.length = us.length ∧ ((∀ c ∈ cells, c.leaf = true) → ∀ c ∈ cells', c.leaf = true)
  | [], up, cells, cells', us, hm, _, hc, h => by
    have : up = [] := by simpa using hm
    subst this
    simp only [afill, Option.some.injEq] at h
    subst h
    exact ⟨us, rfl, hc, rfl, fun h => h⟩
  | (i, v) :: r, [], _, _, _, hm, _, _, _ => by simp at hm
  | (i, v) :: r, (i', u) :: ur, cells, cells', us, hm, hp, hc, h => by
    simp only [List.map_cons, List.cons.injEq] at hm
    obtain ⟨rfl, hm⟩ := hm
    have hv : Rep F w os v u := hp 0 (i', v) (i', u) rfl rfl
    simp only [afill] at h
    split at h
    · cases h
    rename_i off sz hpl
    split at h
    · cases h
    rename_i cs hcs
    split at h
    · rename_i hif
      obtain ⟨hrl, hleaf⟩ := cellsV_rep hcs hv
      have hl := repL_length hrl
      have hlc := repL_length hc
      simp only [Array.length_toList] at hl
      obtain ⟨us', e1, e2, e3, e4⟩ := afill_ok place r ur (splice cells off cs) cells' (us.take off ++ u.cells.toList ++ us.drop (off + u.cells.toList.length)) hm
        (fun j p up h1 h2 => hp (j + 1) p up (by simpa using h1) (by simpa using h2)) (repL_splice hc hrl (by omega)) h
      refine ⟨us', ?_, e2, ?_, fun hcl => e4 fun c hc' => ?_⟩
      · simp only [Instr.fill, hpl]
        rw [if_neg (by simp; omega)]
        rw [← e1]
        congr 1
        have := fold_set off u.cells.toList 0 us (by simp; omega)
        simp only [Nat.add_zero] at this
        rw [← this, ← Array.foldl_toList, Array.toList_zipIdx]
      · rw [e3]; simp; omega
      · unfold splice at hc'
        simp only [List.mem_append] at hc'
        rcases hc' with (hc' | hc') | hc'
        · exact hcl c (List.mem_of_mem_take hc')
        · exact hleaf c hc'
        · exact hcl c (List.mem_of_mem_drop hc')
    · cases h

theorem run_mapM_list {α β : Type} (g : α → Sem β) (f : α → β) : ∀ (l : List α), (∀ x ∈ l, (g x).run P w = .ok (f x) w) → (l.mapM g).run P w = .ok (l.map f) w
  | [], _ => by simp
  | x :: l, h => by
    have ih := run_mapM_list g f l (fun y hy => h y (by simp [hy]))
    simp [List.mapM_cons, h x (by simp), ih]

theorem run_mapM_array {α β : Type} (g : α → Sem β) (f : α → β) (xs : Array α) (h : ∀ x ∈ xs, (g x).run P w = .ok (f x) w) : (xs.mapM g).run P w = .ok (xs.map f) w := by
  have h1 := run_mapM_list (P := P) (w := w) g f xs.toList (fun x hx => h x (by simpa using hx))
  rw [Array.mapM_eq_mapM_toList, Sem.run_map, h1]
  have : (List.map f xs.toList).toArray = Array.map f xs := by apply Array.ext'; simp
  simp [this]

theorem aBuild_ok {t : TypeId} {parts : List (Nat × AV)} {uparts : Array (Nat × Value)} {K : AV → Prop} (h : aBuild P t parts K) (hm : uparts.toList.map (·.1) = parts.map (·.1))
    (hp : ∀ (i : Nat) p up, parts[i]? = some p → uparts.toList[i]? = some up → Rep F w os p.2 up.2) : Yields P F w os (Instr.build t uparts) K := by
  obtain ⟨hall, h⟩ := h
  obtain ⟨fs, hfs, h⟩ := optK_elim h
  obtain ⟨z, hz, h⟩ := optK_elim h
  obtain ⟨cs, hcs, hk⟩ := optK_elim h
  obtain ⟨inf, zv, hi, hzv, rfl, hl, _⟩ := zinfo_some hz
  unfold finfos at hfs
  split at hfs
  case h_2 => cases hfs
  rename_i flds hu
  simp only [Option.some.injEq] at hfs
  subst hfs
  unfold allInfo at hall
  simp only [hu] at hall
  obtain ⟨us', e1, e2, _⟩ := afill_ok (F := F) (w := w) (os := os) _ parts uparts.toList _ cs zv.cells.toList hm hp (repL_ofLeaf F w os _) hcs
  refine ⟨_, .agg us'.toArray, hk, ?_, by simp only [Rep]; exact ⟨us', rfl, e2⟩⟩
  have hmap := run_mapM_array (P := P) (w := w) (fun f : Field => (do pure (f.offset, ← sizeOf f.type) : Sem (Nat × Nat))) (fun f => (f.offset, P.cellsOf f.type)) flds (fun f hf => by
    have h1 := Array.all_eq_true_iff_forall_mem.1 hall f hf
    obtain ⟨fi, hfi⟩ := Option.isSome_iff_exists.1 h1
    simp [sizeOf, typeInfo, hfi, Program.cellsOf])
  have hplace : (fun (i : Nat) => (flds.map fun f => (f.offset, P.cellsOf f.type))[i]?) = fun (i : Nat) => (flds.toList.map fun f => (f.offset, P.cellsOf f.type))[i]? := by
    funext i; simp
  simp only [Array.toArray_toList] at e1
  simp only [Instr.build, Sem.run_bind, zeroValue, typeInfo, run_program, Result.andThen_ok, hi, Sem.run_pure, hzv, run_underlying hu, hmap]
  rw [hplace, e1]
  simp

theorem chunk_get {size : Nat} : ∀ {n : Nat} {cs : List AV}, cs.length = n * size → (chunk size n cs).length = n ∧ (∀ x ∈ chunk size n cs, x.length = size) ∧
    ∀ (i : Nat) x, (chunk size n cs)[i]? = some x → ∀ (j : Nat) c, x[j]? = some c → cs[i * size + j]? = some c
  | 0, cs, h => by simp [chunk]
  | n + 1, cs, h => by
    have hl : (cs.drop size).length = n * size := by rw [List.length_drop, h, Nat.add_mul]; omega
    obtain ⟨h1, h2, h3⟩ := chunk_get hl
    have h0 : size ≤ cs.length := by rw [h, Nat.add_mul]; omega
    refine ⟨by simp [chunk, h1], fun x hx => ?_, fun i x hx j c hc => ?_⟩
    · simp only [chunk, List.mem_cons] at hx
      rcases hx with rfl | hx
      · simp; omega
      · exact h2 x hx
    · cases i with
      | zero =>
        simp only [chunk, List.getElem?_cons_zero, Option.some.injEq] at hx
        subst hx
        rw [List.getElem?_take] at hc
        split at hc
        · simpa using hc
        · cases hc
      | succ i =>
        simp only [chunk, List.getElem?_cons_succ] at hx
        have := h3 i x hx j c hc
        rw [List.getElem?_drop] at this
        rw [← this]; congr 1; rw [Nat.add_mul]; omega

theorem aBuildSlice_ok {t : TypeId} {len : Nat} {parts : List (Nat × AV)} {uparts : Array (Nat × Value)} {K : AV → List Row → Prop} (hr : Rel F os s a w) (h : aBuildSlice P s.st t len parts K) (hm : uparts.toList.map (·.1) = parts.map (·.1))
    (hp : ∀ (i : Nat) p up, parts[i]? = some p → uparts.toList[i]? = some up → Rep F w os p.2 up.2) : Effects P k F os s a w (Instr.buildSlice t len uparts) K := by
  obtain ⟨ei, he, h⟩ := optK_elim h
  obtain ⟨inf, z, hu, hi, hz, hzs, hpos, hsz, hby, hzero, hzl⟩ := einfo_some he
  obtain ⟨hle, h⟩ := h
  obtain ⟨cs, hcs, hk⟩ := optK_elim h
  have hzlen : ei.zero.length = ei.size := by rw [hzero, hsz, ← hzs]; simp
  -- the zero cells
  have hz0 : RepL F w os ((List.replicate len ei.zero).flatten) (madeCells z.cells (len * ei.size)).toList := by
    refine repL_mk (by simp [madeCells, hzlen]) fun i x u hx hu' => ?_
    have hil : i < len * ei.size := by have := (List.getElem?_eq_some_iff.1 hu').1; simpa [madeCells] using this
    have hpos' : 0 < ei.size := by omega
    have hx' : ei.zero[i % ei.size]? = some x := by
      rw [← hx]
      have hfl : ∀ (n i : Nat), i < n * ei.size → ((List.replicate n ei.zero).flatten)[i]? = ei.zero[i % ei.size]? := fun n => by
        induction n with
        | zero => intro i hi; simp at hi
        | succ n ih =>
          intro i hi
          rw [List.replicate_succ, List.flatten_cons]
          rw [Nat.add_mul] at hi
          by_cases hlt : i < ei.size
          · rw [List.getElem?_append_left (by omega), Nat.mod_eq_of_lt hlt]
          · rw [List.getElem?_append_right (by omega), hzlen, ih _ (by omega)]
            congr 1
            rw [Nat.mod_eq_sub_mod (by omega : i ≥ ei.size)]
      exact (hfl len i hil).symm
    have hmod : i % ei.size < z.cells.size := by rw [hzs, ← hsz]; exact Nat.mod_lt _ hpos'
    have hu2 : u = z.cells[i % ei.size] := by
      have hmm : i % z.cells.size < z.cells.size := by rw [hzs, ← hsz]; rw [hzs, ← hsz] at hmod; exact hmod
      simp [madeCells, hil] at hu'
      rw [← hu']
      have : i % z.cells.size = i % ei.size := by rw [hzs, hsz]
      simp [this, hmod]
    subst hu2
    rw [hzero] at hx'
    simp only [List.getElem?_map, Array.getElem?_toList, Array.getElem?_eq_getElem hmod, Option.map_some, Option.some.injEq] at hx'
    subst hx'
    exact rep_ofLeafZ F w os _
  obtain ⟨us', e1, e2, e3, e4⟩ := afill_ok (F := F) (w := w) (os := os) _ parts uparts.toList _ cs _ hm hp hz0 hcs
  have hul : us'.length = len * ei.size := by rw [e3]; simp [madeCells]
  have hcl : cs.length = len * ei.size := by rw [← repL_length e2, hul]
  obtain ⟨c1, c2, c3⟩ := chunk_get hcl
  have hleaf : ∀ c ∈ cs, c.leaf = true := e4 (fun c hc => by
    simp only [List.mem_flatten, List.mem_replicate] at hc
    obtain ⟨l, ⟨_, rfl⟩, hc⟩ := hc
    exact hzl c hc)
  have := hr.addRow (k := k) (.inl rfl) (cur := us'.toArray) (e := ei.e) (size := ei.size) (cap := len) (xs := chunk ei.size len cs) (by omega) (fun x hx => ⟨c2 x hx, fun c hc => by
      obtain ⟨i, hi'⟩ := List.mem_iff_getElem?.1 hx
      obtain ⟨j, hj⟩ := List.mem_iff_getElem?.1 hc
      exact hleaf c (List.mem_of_getElem? (c3 i x hi' j c hj))⟩) (by simpa using hul) (by omega) (by
        simp only [maxLen]
        have : len ≤ len * ei.size := Nat.le_mul_of_pos_right _ (by omega)
        omega) (fun i x hx j c hc => by
      obtain ⟨u, f1, f2⟩ := repL_get e2 _ _ (c3 i x hx j c hc)
      exact ⟨u, by simpa using f1, f2⟩)
  refine ⟨_, _, .slice (some ⟨w.heap.size, 0, none⟩) len len, _, _, hk, ?_, this.1, ?_, this.2.1⟩
  · have hlt : ¬ (16777216 < len * inf.size) := by rw [← hsz]; omega
    by_cases h0 : len * inf.size = 0
    · have hlen0 : len = 0 := by rcases Nat.mul_eq_zero.1 h0 with h | h <;> omega
      subst hlen0
      simp only [Nat.zero_mul] at hul
      have : us' = [] := List.eq_nil_of_length_eq_zero hul
      subst this
      have e1' : Instr.fill (fun i => some (i * inf.size, inf.size)) (Array.map (fun _ => (default : Value)) (Array.range 0)) uparts.toList = some #[] := by
        rw [← hsz]
        have : (Array.map (fun _ => (default : Value)) (Array.range 0)) = (madeCells z.cells (0 * ei.size)) := by simp [madeCells]
        rw [this]; simpa using e1
      simp [Instr.buildSlice, run_underlying hu, sizeOf, typeInfo, hi, newRow, e1']
    · simp only [madeCells, Array.toArray_toList] at e1
      rw [hsz] at e1
      simp [Instr.buildSlice, run_underlying hu, sizeOf, typeInfo, zeroValue, hi, hz, newRow, hlt, h0, e1]
  · simp only [Rep]
    exact ⟨_, by rw [hr.len]; exact new_get _ _, Nat.le_refl _, ⟨_, _, _, rfl⟩, fun _ => ⟨by simp only; omega, .inr ⟨_, rfl, rfl⟩⟩⟩

end Go.Abs

namespace Go.Abs
open Go

variable {P : Program} {F : Nat → Prop} {os : List Own} {s : St} {a : Act} {w : World} {k : Nat}

/-! ### Calls -/

structure StoreOK (F : Nat → Prop) (os : List Own) (st : List Row) (w : World) : Prop where
  st : os.map Own.row = st
  rows : ∀ (i : Nat) (o : Own), os[i]? = some o → OwnOK F w os o
  inj : ∀ (i j : Nat) (oi oj : Own) (b : Nat), os[i]? = some oi → os[j]? = some oj → oi.owns b → oj.owns b → i = j
  old : ∀ b, F b → b < w.heap.size

/-- A function's contract, over abstract values. -/
def ACalls (P : Program) (f : FuncId) (args : List AV) (st : List Row) (R : AV → List Row → Prop) : Prop :=
  ∀ F os w vs, StoreOK F os st w → RepL F w os args vs → Calls P f vs.toArray w fun e w' =>
    ∃ v r st' F' os', e = .returned v ∧ R r st' ∧ StoreOK F' os' st' w' ∧ Rep F' w' os' r v ∧ Ext F os w F' os' w' st.length

theorem ACalls.mono {f : FuncId} {args : List AV} {st : List Row} {R R' : AV → List Row → Prop} (h : ACalls P f args st R) (hR : ∀ r st', R r st' → R' r st') : ACalls P f args st R' :=
  fun F os w vs h1 h2 => (h F os w vs h1 h2).mono fun _ _ ⟨v, r, st', F', os', he, hr, h3⟩ => ⟨v, r, st', F', os', he, hR r st' hr, h3⟩

/-- What a call of this state must bring about. -/
def callThen (P : Program) (k : Nat) (s : St) (f : FuncId) (args : List AV) (d : Option Tmp) (K : St → Prop) : Prop :=
  ∀ F os a w vs, Rel F os s a w → RepL F w os args vs → Calls P f vs.toArray w fun e w' =>
    ∃ v r st' F' os', e = .returned v ∧ K ({ s with st := st' }.put d r) ∧ Rel F' os' { s with st := st' } a w' ∧ Rep F' w' os' r v ∧ Ext F os w F' os' w' k

/-! ### One operation -/

def aCallee (v : AV) (K : FuncId → List AV → Prop) : Prop :=
  match v with
  | .fn f caps => K f caps
  | _ => False

def hasBody (P : Program) (f : FuncId) : Bool :=
  match P.funcs[f]? with
  | some fn => fn.body.isSome && !(fn.name == "runtime.NumGoroutine")
  | none => false

def aConv (P : Program) (src dst : TypeId) (x : AV) (K : AV → Prop) : Prop :=
  match P.underlying src, P.underlying dst, x with
  | some _, some (.int k), .int _ n => K (.int k (k.wrap n))
  | _, _, _ => False

def aMax (x y : AV) (K : AV → Prop) : Prop :=
  match x, y with
  | .int k a, .int _ b => K (.int k (if b > a then b else a))
  | _, _ => False

def aMin (x y : AV) (K : AV → Prop) : Prop :=
  match x, y with
  | .int k a, .int _ b => K (.int k (if b < a then b else a))
  | _, _ => False

/-- The operations that yield a value and leave memory alone. -/
def aquiet (P : Program) (s : St) (op : Op) (K : AV → Prop) : Prop :=
  match op with
  | .move x | .assign x => K (s.ev x)
  | .pick c a b => aPick (s.ev c) (s.ev a) (s.ev b) K
  | .nilCheck x => aNil s.st (s.ev x) K
  | .binOp op t x y _ => aBin P t op (s.ev x) (s.ev y) K
  | .unOp op _ x => aUn op (s.ev x) K
  | .convert src dst x => aConv P src dst (s.ev x) K
  | .load t p => aLoad P s.st t (s.ev p) K
  | .fieldAddr t x f => aFieldAddr P t (s.ev x) f s.st K
  | .field t x f => aField P t (s.ev x) f K
  | .indexAddr t x i => aIndexAddr P s.st t (s.ev x) (s.ev i) K
  | .extract x i => aExtract (s.ev x) i K
  | .build t parts => aBuild P t (parts.toList.map fun p => (p.1, s.ev p.2)) K
  | .makeFunc (.func f) first caps => first = #[] ∧ K (.fn f (caps.toList.map s.ev))
  | .call ⟨.builtin .len, args, types⟩ => match args.toList, types.toList with
    | [x], [t] => isSliceT P t = true ∧ aLen s.st (s.ev x) K
    | _, _ => False
  | .call ⟨.builtin .max, args, _⟩ => match args.toList with
    | [x, y] => aMax (s.ev x) (s.ev y) K
    | _ => False
  | .call ⟨.builtin .min, args, _⟩ => match args.toList with
    | [x, y] => aMin (s.ev x) (s.ev y) K
    | _ => False
  | _ => False

/-- A slice against nil: of an empty one nothing is known. -/
def aNilEq (P : Program) (t : TypeId) (st : List Row) (x : AV) (K : AV → Prop) : Prop :=
  isSliceT P t = true ∧ match x with
  | .sl xs => (xs = [] → K (.bool true)) ∧ K (.bool false)
  | .zc => K (.bool true) ∧ K (.bool false)
  | .own id g _ => optK st[id]? fun row => row.gen = g ∧ (row.xs = [] → K (.bool true)) ∧ K (.bool false)
  | _ => False

theorem run_equal_nil {t e : TypeId} (hu : P.underlying t = some (.slice e)) (a : Option Addr) (l c : Nat) : (Op.equal t (.slice a l c) (.slice none 0 0)).run P w = .ok a.isNone w := by
  have hd : ∀ d, (Op.equalIn (d + 1) t (.slice a l c) (.slice none 0 0)).run P w = .ok a.isNone w := fun d => by
    cases a <;> simp only [Op.equalIn, Sem.run_bind, run_underlying hu, Result.andThen_ok, Sem.run_pure] <;> rfl
  have : Op.maxDepth = 9999 + 1 := rfl
  unfold Op.equal
  rw [this]
  exact hd 9999

theorem aNilEq_ok {t : TypeId} {x : AV} {ux : Value} {ox : Operand} {K : AV → Prop} (hr : Rel F os s a w) (h : aNilEq P t s.st x K) (hx : Rep F w os x ux) :
    Yields P F w os (do eqGuard .eql t ox (.const (.slice none 0 0)) ux (.slice none 0 0); binOp .eql t ux (.slice none 0 0)) K := by
  obtain ⟨ht, h⟩ := h
  unfold isSliceT at ht
  split at ht
  case h_2 => cases ht
  rename_i e hu
  have hrun : ∀ ad l c, (do eqGuard .eql t ox (.const (.slice none 0 0)) (.slice ad l c) (.slice none 0 0); binOp .eql t (.slice ad l c) (.slice none 0 0) : Sem Value).run P w = .ok (.bool ad.isNone) w := fun ad l c => by
    have hg : (eqGuard .eql t ox (.const (.slice none 0 0)) (.slice ad l c) (.slice none 0 0)).run P w = .ok () w := by
      unfold eqGuard; simp
    simp only [Sem.run_bind, hg, Result.andThen_ok, binOp, run_equal_nil hu, Sem.run_pure]
  cases x with
  | sl xs =>
    simp only [Rep] at hx
    obtain ⟨ad, cap, rfl, _, hne⟩ := hx
    by_cases he : xs = []
    · cases ad with
      | none => exact .bool (h.1 he) (hrun _ _ _)
      | some ad => exact .bool h.2 (hrun _ _ _)
    · obtain ⟨b, o, sz, rfl, _⟩ := hne he
      exact .bool h.2 (hrun _ _ _)
  | zc =>
    simp only [Rep] at hx
    obtain ⟨ad, rfl⟩ := hx
    cases ad with
    | none => exact .bool h.1 (hrun _ _ _)
    | some ad => exact .bool h.2 (hrun _ _ _)
  | own id g n =>
    obtain ⟨row, hrow, hg, h1, h2⟩ := optK_elim h
    obtain ⟨ow, how, rfl⟩ := hr.row hrow
    simp only [Rep] at hx
    obtain ⟨o', ho', hge, _, hv⟩ := hx
    rw [how] at ho'; cases ho'
    obtain ⟨hl, hv⟩ := hv hg
    rcases hv with ⟨hb, ad, rfl⟩ | ⟨b, _, rfl⟩
    · have := ((hr.rows id ow how).none hb).1
      cases ad with
      | none => exact .bool (h1 this) (hrun _ _ _)
      | some ad => exact .bool h2 (hrun _ _ _)
    · exact .bool h2 (hrun _ _ _)
  | _ => exact h.elim

/-- Those that make rows or turn them; calls. -/
def aloud (P : Program) (k : Nat) (s : St) (d : Option Tmp) (op : Op) (K : St → Prop) : Prop :=
  match op with
  | .binOp .eql t x (.const (.slice none 0 0)) _ => aNilEq P t s.st (s.ev x) fun v => K (s.put d v)
  | .alloc e => aAlloc P e s.st fun v st => K ({ s with st := st }.put d v)
  | .box e x => aBox e s.st (s.ev x) fun v st => K ({ s with st := st }.put d v)
  | .store t p v => aStore P s.st t (s.ev p) (s.ev v) fun st => K ({ s with st := st }.put d .junk)
  | .makeSlice t l c => aMake P s.st t (s.ev l) (s.ev c) fun v st => K ({ s with st := st }.put d v)
  | .buildSlice t len parts => aBuildSlice P s.st t len (parts.toList.map fun p => (p.1, s.ev p.2)) fun v st => K ({ s with st := st }.put d v)
  | .slice t x lo hi mx => aSlice P s.st t (s.ev x) (lo.map s.ev) (hi.map s.ev) (mx.map s.ev) fun v st => K ({ s with st := st }.put d v)
  | .call ⟨.builtin .append, args, types⟩ => match args.toList, types.toList with
    | [x, y], [t, t'] => t = t' ∧ aAppend P s.st t (s.ev x) (s.ev y) fun v st => K ({ s with st := st }.put d v)
    | _, _ => False
  | .call ⟨.value f, args, _⟩ => aCallee (s.ev f) fun f caps => hasBody P f = true ∧ callThen P k s f (args.toList.map s.ev ++ caps) d K
  | _ => False

def isLoud : Op → Bool
  | .binOp .eql _ _ (.const (.slice none 0 0)) _ => true
  | .alloc _ | .box .. | .store .. | .makeSlice .. | .buildSlice .. | .slice .. => true
  | .call ⟨.builtin .append, _, _⟩ => true
  | .call ⟨.value _, _, _⟩ => true
  | _ => false

def astep (P : Program) (k : Nat) (o : Oper) (s : St) (K : St → Prop) : Prop :=
  if isLoud o.op then aloud P k s o.dst o.op K else aquiet P s o.op fun v => K (s.put o.dst v)

theorem repL_evs (hr : Rel F os s a w) : ∀ l : List Operand, RepL F w os (l.map s.ev) (l.map a.eval)
  | [] => by simp [RepL]
  | x :: l => by simp only [List.map_cons, RepL]; exact ⟨_, _, rfl, hr.ev x, repL_evs hr l⟩

theorem aquiet_ok {o : Oper} {K : AV → Prop} (hr : Rel F os s a w) (h : aquiet P s o.op K) :
    ∃ x u, K x ∧ (execOp a.eval o).run P w = .ok (.value u) w ∧ Rep F w os x u := by
  have lift : ∀ {sem : Sem Value}, Yields P F w os sem K → ∃ x u, K x ∧ (do pure (Next.value (← sem)) : Sem Next).run P w = .ok (.value u) w ∧ Rep F w os x u := fun ⟨x, u, h1, h2, h3⟩ =>
    ⟨x, u, h1, by simp [h2], h3⟩
  obtain ⟨dst, op, ty, pos, after, guard⟩ := o
  simp only at h
  unfold aquiet at h
  split at h
  case h_1 => exact ⟨_, _, h, rfl, hr.ev _⟩
  case h_2 => exact ⟨_, _, h, rfl, hr.ev _⟩
  case h_3 c p q =>
    obtain ⟨x, u, h1, h2, h3⟩ := aPick_ok h (hr.ev _) (hr.ev _) (hr.ev _) (P := P)
    refine ⟨x, u, h1, ?_, h3⟩
    cases hb : (asBool (a.eval c)).run P w with
    | ok b w1 => simp [execOp, hb] at h2 ⊢; exact h2
    | halt e w1 => simp [hb] at h2
  case h_4 x =>
    obtain ⟨v, h1, ⟨ad, h2⟩, h3⟩ := aNil_ok hr h (hr.ev _)
    exact ⟨v, _, h1, by simp only [execOp, h2]; rfl, by rw [← h2]; exact h3⟩
  case h_5 => exact lift (aBin_ok h (hr.ev _) (hr.ev _))
  case h_6 => exact lift (aUn_ok h (hr.ev _))
  case h_7 src dst' x =>
    have hx := hr.ev x
    unfold aConv at h
    split at h
    · rename_i d kk _ n h1 h2 h3
      rw [h3] at hx
      simp only [Rep] at hx
      refine lift (.int h ?_)
      simp [convert, run_underlying h1, run_underlying h2, hx, Conv.intToInt]
    · exact h.elim
  case h_8 => exact lift (aLoad_ok hr h (hr.ev _))
  case h_9 => exact lift (aFieldAddr_ok hr h (hr.ev _))
  case h_10 => exact lift (aField_ok h (hr.ev _))
  case h_11 => exact lift (aIndexAddr_ok hr h (hr.ev _) (hr.ev _))
  case h_12 => exact lift (aExtract_ok h (hr.ev _))
  case h_13 t parts =>
    refine lift (aBuild_ok (uparts := parts.map fun (i, x) => (i, a.eval x)) h ?_ ?_)
    · simp
    · intro i p up hp hup
      simp only [List.getElem?_map, Option.map_eq_some_iff, Array.toList_map] at hp hup
      obtain ⟨q, hq, rfl⟩ := hp
      obtain ⟨q', hq', rfl⟩ := hup
      rw [hq] at hq'; cases hq'
      exact hr.ev _
  case h_14 f first caps =>
    obtain ⟨rfl, hk⟩ := h
    refine ⟨_, .func (.func f) #[] (caps.map a.eval), hk, by simp [execOp, Instr.makeFunc], ?_⟩
    simp only [Rep]
    exact ⟨caps.toList.map a.eval, by apply congrArg; apply Array.ext'; simp, repL_evs hr _⟩
  case h_15 args types =>
    split at h
    · rename_i x t h1 h2
      obtain ⟨ht, h⟩ := h
      obtain ⟨v, u, e1, e2, e3⟩ := aLen_ok (ty := ty) hr ht h (hr.ev x)
      refine ⟨v, u, e1, ?_, e3⟩
      have ha : args = #[x] := by apply Array.ext'; simpa using h1
      have htt : types = #[t] := by apply Array.ext'; simpa using h2
      subst ha; subst htt
      simp [execOp, resolve, invoke, builtin, e2]
    · exact h.elim
  case h_16 args types =>
    split at h
    · rename_i x y h1
      have ha : args = #[x, y] := by apply Array.ext'; simpa using h1
      subst ha
      have hx := hr.ev x
      have hy := hr.ev y
      unfold aMax at h
      split at h
      · rename_i e1 e2
        rw [e1] at hx; rw [e2] at hy
        simp only [Rep] at hx hy
        exact ⟨_, _, h, by simp [execOp, resolve, invoke, builtin, Builtin.max_, Builtin.max2, hx, hy]; rfl, by simp [Rep]⟩
      · exact h.elim
    · exact h.elim
  case h_17 args types =>
    split at h
    · rename_i x y h1
      have ha : args = #[x, y] := by apply Array.ext'; simpa using h1
      subst ha
      have hx := hr.ev x
      have hy := hr.ev y
      unfold aMin at h
      split at h
      · rename_i e1 e2
        rw [e1] at hx; rw [e2] at hy
        simp only [Rep] at hx hy
        exact ⟨_, _, h, by simp [execOp, resolve, invoke, builtin, Builtin.min_, Builtin.min2, hx, hy]; rfl, by simp [Rep]⟩
      · exact h.elim
    · exact h.elim
  case h_18 => exact h.elim

theorem Rel.store (hr : Rel F os s a w) : StoreOK F os s.st w := ⟨hr.st, hr.rows, hr.inj, hr.old⟩

def Step (k n : Nat) (F : Nat → Prop) (os : List Own) (w : World) (K : St → Prop) (a' : Act) (w' : World) : Prop :=
  ∃ s' F' os', s'.n = n ∧ K s' ∧ Rel F' os' s' a' w' ∧ Ext F os w F' os' w' k

theorem putStep {K : St → Prop} {d : Option Tmp} {st' : List Row} {F' : Nat → Prop} {os' : List Own} {w' : World} {v : AV} {u : Value} (hd : dstOK s.n d = true)
    (hk : K ({ s with st := st' }.put d v)) (hr : Rel F' os' { s with st := st' } a w') (hv : Rep F' w' os' v u) (he : Ext F os w F' os' w' k) : Step k s.n F os w K (a.put d u) w' :=
  ⟨_, F', os', by cases d <;> rfl, hk, hr.put hd hv, he⟩

theorem aloud_ok {o : Oper} {K : St → Prop} (hr : Rel F os s a w) (hd : dstOK s.n o.dst = true) (h : aloud P k s o.dst o.op K) {next : Act → World → Prop} {Q : Exit → Act → World → Prop}
    (hn : ∀ a' w', Step k s.n F os w K a' w' → next a' w') : o.wp P a w next Q := by
  have lift : ∀ {sem : Sem Value} {K' : AV → List Row → Prop}, Effects P k F os s a w sem K' → (∀ v st, K' v st → K ({ s with st := st }.put o.dst v)) →
      o.upon P a next Q ((do pure (Next.value (← sem)) : Sem Next).run P w) := fun ⟨v, st', u, w', os', h1, h2, h3, h4, h5⟩ hK => by
    simp only [Sem.run_bind, h2, Result.andThen_ok, Sem.run_pure, Oper.upon]
    exact hn _ _ (putStep hd (hK _ _ h1) h3 h4 h5)
  obtain ⟨dst, op, ty, pos, after, guard⟩ := o
  simp only at h hd lift
  unfold aloud at h
  unfold Oper.wp
  split at h
  case h_1 t x yT =>
    obtain ⟨v, u, h1, h2, h3⟩ := aNilEq_ok (P := P) (ox := x) hr h (hr.ev x)
    have h2' : (execOp a.eval ⟨dst, .binOp .eql t x (.const (.slice none 0 0)) yT, ty, pos, after, guard⟩).run P w = .ok (.value u) w := by
      simp only [execOp, Act.eval, Sem.run_bind, Sem.run_pure] at h2 ⊢
      rw [h2]; rfl
    rw [h2']
    exact hn _ _ ⟨_, F, os, by cases dst <;> rfl, h1, hr.put hd h3, Ext.refl _ _ _ _⟩
  case h_2 e => simp only [execOp]; exact lift (aAlloc_ok hr h) (fun _ _ h => h)
  case h_3 e x => simp only [execOp]; exact lift (aBox_ok hr h (hr.ev _)) (fun _ _ h => h)
  case h_4 t p v =>
    obtain ⟨st', w', os', h1, h2, h3, h4⟩ := aStore_ok (k := k) hr h (hr.ev _) (hr.ev _)
    simp only [execOp, Sem.run_bind, h2, Result.andThen_ok, Sem.run_pure, Oper.upon]
    exact hn _ _ (putStep hd h1 h3 (by simp [Rep]) h4)
  case h_5 t l c => simp only [execOp]; exact lift (aMake_ok hr h (hr.ev _) (hr.ev _)) (fun _ _ h => h)
  case h_6 t len parts =>
    have h9 : Effects P k F os s a w (Instr.buildSlice t len (parts.map fun (i, x) => (i, a.eval x))) _ := aBuildSlice_ok hr h (by simp) (fun i p up hp hup => by
      simp only [List.getElem?_map, Option.map_eq_some_iff, Array.toList_map] at hp hup
      obtain ⟨q, hq, rfl⟩ := hp
      obtain ⟨q', hq', rfl⟩ := hup
      rw [hq] at hq'; cases hq'
      exact hr.ev _)
    exact lift h9 (fun _ _ h => h)
  case h_7 t x lo hi mx =>
    have hO : ∀ o : Option Operand, RepO F w os (o.map s.ev) (o.map a.eval) := fun o => by
      cases o with
      | none => simp [RepO]
      | some x => simpa [RepO] using hr.ev x
    simp only [execOp]
    exact lift (aSlice_ok hr h (hr.ev _) (hO _) (hO _) (hO _)) (fun _ _ h => h)
  case h_8 args types =>
    split at h
    · rename_i x y t t' h1 h2
      obtain ⟨rfl, h⟩ := h
      have ha : args = #[x, y] := by apply Array.ext'; simpa using h1
      have htt : types = #[t, t] := by apply Array.ext'; simpa using h2
      subst ha; subst htt
      have := lift (aAppend_ok (ty := ty) hr h (hr.ev _) (hr.ev _)) (fun _ _ h => h)
      simpa [execOp, resolve, invoke, builtin] using this
    · exact h.elim
  case h_9 f args types =>
    have hf := hr.ev f
    unfold aCallee at h
    split at h
    · rename_i g caps hfe
      rw [hfe] at hf
      simp only [Rep] at hf
      obtain ⟨us, hfu, hus⟩ := hf
      obtain ⟨hbody, hc⟩ := h
      have hl : RepL F w os (args.toList.map s.ev ++ caps) (args.toList.map a.eval ++ us) := by
        have h1 := repL_evs hr args.toList
        have l1 := repL_length h1
        have l2 := repL_length hus
        refine repL_mk (by simp [l2]) fun i x u hx hu => ?_
        by_cases hi : i < args.toList.length
        · rw [List.getElem?_append_left (by simpa using hi)] at hx hu
          obtain ⟨u', e1, e2⟩ := repL_get h1 i x hx
          rw [hu] at e1; cases e1; exact e2
        · rw [List.getElem?_append_right (by simpa using hi)] at hx hu
          simp only [List.length_map] at hx hu
          obtain ⟨u', e1, e2⟩ := repL_get hus _ x hx
          rw [hu] at e1; cases e1; exact e2
      have hcall := hc F os a w _ hr hl
      unfold hasBody at hbody
      split at hbody
      · rename_i fn hfn
        simp only [Bool.and_eq_true, Bool.not_eq_true'] at hbody
        have hnb : fn.body.isNone = false := by cases hb : fn.body <;> simp_all
        have hargs : (args.toList.map a.eval ++ us).toArray = args.map a.eval ++ us.toArray := by apply Array.ext'; simp
        rw [hargs] at hcall
        simp only [execOp, resolve, hfu, Deferred.ofValue, Sem.run_bind, Sem.run_pure, Result.andThen_ok, invoke, callFunc, run_program, hfn, hbody.2, hnb, Array.empty_append, Bool.false_eq_true, if_false, Oper.upon]
        refine hcall.mono ?_
        rintro e w' ⟨v, r, st', F', os', rfl, hk, hr', hv, he⟩
        exact hn _ _ (putStep hd hk hr' hv he)
      · cases hbody
    · exact h.elim
  case h_10 => exact h.elim

theorem astep_ok {o : Oper} {K : St → Prop} (hr : Rel F os s a w) (hd : dstOK s.n o.dst = true) (h : astep P k o s K) {next : Act → World → Prop} {Q : Exit → Act → World → Prop}
    (hn : ∀ a' w', Step k s.n F os w K a' w' → next a' w') : o.wp P a w next Q := by
  unfold astep at h
  split at h
  · exact aloud_ok hr hd h hn
  · obtain ⟨x, u, h1, h2, h3⟩ := aquiet_ok hr h
    unfold Oper.wp
    rw [h2]
    exact hn _ _ ⟨_, F, os, by cases o.dst <;> rfl, h1, hr.put hd h3, Ext.refl _ _ _ _⟩

/-! ### Regions in the order of their text -/

def aG (b want : Bool) (A B : Prop) : Prop := (b = want → A) ∧ (b ≠ want → B)

/-- The guard's yield; where that one did not run, this one does not. -/
def aGd (v : AV) (want : Bool) (A B : Prop) : Prop :=
  match v with
  | .bool b => aG b want A B
  | .un => B
  | _ => False

def aguard (ds : List (Option Tmp)) (o : Oper) (s : St) (A B : Prop) : Prop :=
  match o.guard with
  | none => A
  | some (j, want) => match ds[j]? with
    | some (some t) => aGd (s.env t) want A B
    | _ => False

def aops (P : Program) (k : Nat) : List (Option Tmp) → List Oper → (St → Prop) → St → Prop
  | _, [], K, s => K s
  | ds, o :: r, K, s => aguard ds o s (astep P k o s (aops P k (ds ++ [o.dst]) r K)) (aops P k (ds ++ [o.dst]) r K (s.put o.dst .un))

theorem yielded_of (hr : Rel F os s a w) {ops : Array Oper} {j t : Nat} {b : Bool} (hj : ((ops[j]?).map (·.dst)) = some (some t)) (ht : t < s.n) (hb : s.env t = .bool b) : yielded ops a.tmps j = some b := by
  have h := hr.env t
  rw [hb] at h
  simp only [Rep] at h
  have hlt : t < a.tmps.size := by rw [hr.size]; exact ht
  have h2 : a.tmps[t]? = some (.bool b) := by
    rw [Array.getElem?_eq_getElem hlt]
    rw [Array.getD_eq_getD_getElem?, Array.getElem?_eq_getElem hlt] at h
    simpa using h
  unfold yielded
  cases ho : ops[j]? with
  | none => rw [ho] at hj; cases hj
  | some o =>
    rw [ho] at hj
    simp only [Option.map_some, Option.some.injEq] at hj
    simp [hj, h2]

theorem yielded_un (hr : Rel F os s a w) {ops : Array Oper} {j t : Nat} (hj : ((ops[j]?).map (·.dst)) = some (some t)) (ht : t < s.n) (hb : s.env t = .un) : yielded ops a.tmps j = none := by
  have h := hr.env t
  rw [hb] at h
  simp only [Rep] at h
  have hlt : t < a.tmps.size := by rw [hr.size]; exact ht
  have h2 : a.tmps[t]? = some undef := by
    rw [Array.getElem?_eq_getElem hlt]
    rw [Array.getD_eq_getD_getElem?, Array.getElem?_eq_getElem hlt] at h
    simpa using h
  unfold yielded
  cases ho : ops[j]? with
  | none => rw [ho] at hj; cases hj
  | some o =>
    rw [ho] at hj
    simp only [Option.map_some, Option.some.injEq] at hj
    simp [hj, h2, undef]

theorem aguard_ok (hr : Rel F os s a w) {ops : Array Oper} {ds : List (Option Tmp)} {o : Oper} {A B : Prop} (hds : ∀ (j : Nat) d, ds[j]? = some d → (ops[j]?).map (·.dst) = some d) (hdn : ∀ d ∈ ds, dstOK s.n d = true) (h : aguard ds o s A B) :
    (Region.wanted o (yielded ops a.tmps) = true ∧ A) ∨ (Region.wanted o (yielded ops a.tmps) = false ∧ B) := by
  unfold aguard at h
  unfold Region.wanted
  split at h
  · rename_i hg; rw [hg]; exact .inl ⟨rfl, h⟩
  · rename_i j want hg
    rw [hg]
    dsimp only
    split at h
    · rename_i t ht
      unfold aGd at h
      split at h
      · rename_i b hb
        have hlt : t < s.n := by have := hdn _ (List.mem_of_getElem? ht); simpa [dstOK] using this
        rw [yielded_of hr (hds j _ ht) hlt hb]
        by_cases hbw : b = want
        · exact .inl ⟨by simp [hbw], h.1 hbw⟩
        · exact .inr ⟨by simp [hbw], h.2 hbw⟩
      · rename_i hb
        have hlt : t < s.n := by have := hdn _ (List.mem_of_getElem? ht); simpa [dstOK] using this
        rw [yielded_un hr (hds j _ ht) hlt hb]
        exact .inr ⟨rfl, h⟩
      · exact h.elim
    · exact h.elim

theorem St.put_n (s : St) (d : Option Tmp) (v : AV) : (s.put d v).n = s.n := by cases d <;> rfl

theorem aops_wp {ops : Array Oper} (hdst : ∀ o ∈ ops.toList, dstOK s.n o.dst = true) {K : St → Prop} {Q : Exit → Act → World → Prop} :
    ∀ (l : List Oper) (ds : List (Option Tmp)), (∀ (j : Nat), l[j]? = ops[ds.length + j]?) → (∀ (j : Nat) d, ds[j]? = some d → (ops[j]?).map (·.dst) = some d) → ∀ (s' : St) F os a w, s'.n = s.n → aops P k ds l K s' → Rel F os s' a w →
      (∀ a' w', Step k s.n F os w K a' w' → Q .normal a' w') → wpList P ops Q l a w
  | [], _, _, _, s', F, os, a, w, _, h, hr, hQ => hQ a w ⟨s', F, os, ‹_›, h, hr, Ext.refl _ _ _ _⟩
  | o :: r, ds, hl, hds, s', F, os, a, w, hn, h, hr, hQ => by
    have ho : ops[ds.length]? = some o := by have := hl 0; simpa using this.symm
    have hod : dstOK s'.n o.dst = true := by rw [hn]; exact hdst o (by have := List.mem_of_getElem? (l := ops.toList) (i := ds.length) (by simpa using ho); exact this)
    have hdn : ∀ d ∈ ds, dstOK s'.n d = true := fun d hd => by
      obtain ⟨j, hj⟩ := List.mem_iff_getElem?.1 hd
      have h1 := hds j d hj
      cases hoj : ops[j]? with
      | none => rw [hoj] at h1; cases h1
      | some oj =>
        rw [hoj] at h1
        simp only [Option.map_some, Option.some.injEq] at h1
        subst h1
        rw [hn]; exact hdst oj (by have := List.mem_of_getElem? (l := ops.toList) (i := j) (by simpa using hoj); exact this)
    have hl' : ∀ (j : Nat), r[j]? = ops[(ds ++ [o.dst]).length + j]? := fun j => by
      have := hl (j + 1)
      simp only [List.getElem?_cons_succ] at this
      rw [this]; congr 1; simp; omega
    have hds' : ∀ (j : Nat) d, (ds ++ [o.dst])[j]? = some d → (ops[j]?).map (·.dst) = some d := fun j d hj => by
      rcases Nat.lt_trichotomy j ds.length with h1 | h1 | h1
      · rw [List.getElem?_append_left h1] at hj; exact hds j d hj
      · subst h1; rw [new_get, Option.some.injEq] at hj; rw [ho]; simp [hj]
      · rw [List.getElem?_eq_none (by simp; omega)] at hj; cases hj
    simp only [aops] at h
    unfold wpList
    rcases aguard_ok hr hds hdn h with ⟨hw, h1⟩ | ⟨hw, h1⟩
    · rw [if_pos hw]
      refine .inl (astep_ok hr hod h1 ?_)
      rintro a' w' ⟨s2, F2, os2, hn2, hK, hR2, hE2⟩
      exact aops_wp hdst r _ hl' hds' s2 F2 os2 a' w' (hn2.trans hn) hK hR2 fun a3 w3 ⟨s3, F3, os3, h2, h3, h4, h5⟩ => hQ a3 w3 ⟨s3, F3, os3, h2, h3, h4, hE2.trans h5⟩
    · rw [if_neg (by simp [hw])]
      exact aops_wp hdst r _ hl' hds' _ F os _ w (by rw [St.put_n, hn]) h1 (hr.un hod) hQ

end Go.Abs

namespace Go.Abs
open Go

variable {P : Program} {F : Nat → Prop} {os : List Own} {s : St} {a : Act} {w : World} {k : Nat}

theorem AW.region {id : Nat} {ops : Array Oper} {Q : Exit → St → Prop} (hd : (ops.toList.all fun o => dstOK s.n o.dst) = true) (h : aops P k [] ops.toList (fun s' => Q .normal s') s) : AW P k (.region id ops false) Q s := by
  intro F os a w hr
  refine wp_region ?_
  have e : List.range ops.size = List.range' 0 ops.toList.length := by rw [List.range_eq_range']; simp
  rw [e, wpOps_eq_wpList (ops := ops) ops.toList 0 (by simp)]
  refine aops_wp (s := s) (fun o ho => List.all_eq_true.1 hd o ho) (K := fun s' => Q .normal s') ops.toList [] (by simp) (by simp) s F os a w rfl h hr ?_
  rintro a' w' ⟨s', F', os', _, h1, h2, h3⟩
  exact ⟨s', F', os', h1, h2, h3⟩

/-! ### Values that no world turns: one of them, and the rest does not matter -/

def simple : AV → Bool
  | .own .. | .ptr .. | .fn .. | .agg _ | .tup _ | .dv .. => false
  | _ => true

/-- What rows hold that are handed back. -/
def simple' : AV → Bool
  | .dv .. => true
  | c => simple c

def flat : AV → Bool
  | .own .. | .ptr .. | .dv .. => false
  | .fn _ cs | .agg cs | .tup cs => cs.all simple
  | _ => true

theorem rep_simple {x : AV} {v : Value} (h : simple x = true) (os' : List Own) (hr : Rep F w os x v) : Rep F w os' x v := by
  cases x <;> simp only [simple, Bool.false_eq_true] at h <;> simp only [Rep] at hr ⊢ <;> exact hr

theorem rep_simple' {x : AV} {v : Value} (h : simple' x = true) (os' : List Own) (hr : Rep F w os x v) : Rep F w os' x v := by
  cases x with
  | dv => simpa [Rep] using hr
  | _ => exact rep_simple (by simpa [simple'] using h) os' hr

theorem simple_simple' {c : AV} (h : simple c = true) : simple' c = true := by cases c <;> simp_all [simple, simple']

theorem repL_simple {xs : List AV} {us : List Value} (h : xs.all simple = true) (os' : List Own) (hr : RepL F w os xs us) : RepL F w os' xs us :=
  repL_mk (repL_length hr) fun i x u hx hu => by
    obtain ⟨u', e1, e2⟩ := repL_get hr i x hx
    rw [hu] at e1; cases e1
    exact rep_simple (List.all_eq_true.1 h x (List.mem_of_getElem? hx)) os' e2

theorem rep_flat {x : AV} {v : Value} (h : flat x = true) (os' : List Own) (hr : Rep F w os x v) : Rep F w os' x v := by
  cases x with
  | own => simp [flat] at h
  | ptr => simp [flat] at h
  | dv => simp [flat] at h
  | fn f cs => simp only [Rep] at hr ⊢; obtain ⟨us, e, hl⟩ := hr; exact ⟨us, e, repL_simple h os' hl⟩
  | agg cs => simp only [Rep] at hr ⊢; obtain ⟨us, e, hl⟩ := hr; exact ⟨us, e, repL_simple h os' hl⟩
  | tup cs => simp only [Rep] at hr ⊢; obtain ⟨us, e, hl⟩ := hr; exact ⟨us, e, repL_simple h os' hl⟩
  | _ => exact rep_simple rfl os' hr

theorem repL_flat {xs : List AV} {us : List Value} (h : xs.all flat = true) (os' : List Own) (hr : RepL F w os xs us) : RepL F w os' xs us :=
  repL_mk (repL_length hr) fun i x u hx hu => by
    obtain ⟨u', e1, e2⟩ := repL_get hr i x hx
    rw [hu] at e1; cases e1
    exact rep_flat (List.all_eq_true.1 h x (List.mem_of_getElem? hx)) os' e2

theorem StoreOK.nil (hold : ∀ b, F b → b < w.heap.size) : StoreOK F [] [] w := ⟨rfl, by simp, by simp, hold⟩

/-- A call that was made over a smaller store: the caller's rows are no one's there. -/
theorem Rel.after (hr : Rel F os s a w) {F' : Nat → Prop} {w' : World} {os1 : List Own} (he : Ext F [] w F' os1 w' 0) (hold : ∀ b, F' b → b < w'.heap.size) :
    Rel F' os s a w' ∧ Ext F os w F' os w' k ∧ (∀ x v, Rep F w os x v → Rep F' w' os x v) ∧ ∀ (i : Nat) (o : Own), os[i]? = some o → ∀ b, o.owns b → ∀ o1 : Own, o1 ∈ os1 → ¬ o1.owns b := by
  have hmono : ∀ x v, Rep F w os x v → Rep F' w' os x v := fun x v h => rep_mono he.fsub he.fsame os os (HosLe.refl os) x v h
  have hoth : ∀ (i : Nat) (o : Own), os[i]? = some o → ∀ b, o.owns b → w'.heap[b]? = w.heap[b]? ∧ ¬ F' b ∧ ∀ o1 : Own, o1 ∈ os1 → ¬ o1.owns b := fun i o ho b hb =>
    he.other b ((hr.rows i o ho).lt hb) ((hr.rows i o ho).nF hb) (by simp)
  refine ⟨⟨hr.st, fun i => hmono _ _ (hr.env i), hr.size, fun i o ho => ?_, hr.inj, hold, hr.defers⟩, ⟨he.sys, he.tape, he.output, he.size, he.fsub, he.fsame, fun b hb h1 h2 => ?_, fun i o _ ho => ⟨o, ho, Nat.le_refl _, rfl, fun _ => ⟨rfl, rfl, rfl⟩⟩⟩, hmono, fun i o ho b hb => (hoth i o ho b hb).2.2⟩
  · have hok := hr.rows i o ho
    refine ⟨hok.pos, hok.lens, hok.none, fun b hb => ?_, fun b hb => ⟨(hoth i o ho b (.inr hb)).2.1, Nat.lt_of_lt_of_le (hok.mo b hb).2.1 he.size, (hok.mo b hb).2.2⟩,
      hok.deep.keep rfl (fun _ h => h) rfl (fun b hb => (hoth i o ho b hb).1) (fun i x j e s ys hx hc => ⟨x, hx, hc⟩)⟩
    obtain ⟨h1, cur, h2, h3, h4, h5, h6⟩ := hok.some b hb
    obtain ⟨e1, e2, _⟩ := hoth i o ho b (.inl hb)
    exact ⟨e2, cur, by rw [e1]; exact h2, h3, h4, h5, fun i' x hx j c hc => by
      obtain ⟨u, f1, f2⟩ := h6 i' x hx j c hc
      exact ⟨u, f1, hmono _ _ f2⟩⟩
  · obtain ⟨e1, e2, _⟩ := he.other b hb h1 (by simp)
    exact ⟨e1, e2, h2⟩

theorem callThen_quiet {f : FuncId} {args : List AV} {d : Option Tmp} {K : St → Prop} {v : AV} (h : ACalls P f args [] fun r st' => r = v ∧ st' = []) (hf : args.all flat = true) (hv : flat v = true) (hK : K (s.put d v)) : callThen P k s f args d K := by
  intro F os a w vs hr hl
  refine (h F [] w vs (StoreOK.nil hr.old) (repL_flat hf [] hl)).mono ?_
  rintro e w' ⟨u, r, st', F', os', rfl, ⟨rfl, rfl⟩, hs, hru, he⟩
  have hos : os' = [] := by have := hs.st; simpa using this
  subst hos
  obtain ⟨h1, h2, _⟩ := hr.after (k := k) he hs.old
  exact ⟨u, r, s.st, F', os, rfl, hK, h1, rep_flat hv os hru, h2⟩

/-! ### Regions that draw their order -/

/-- What such an operation brings about: one value, whatever the world; the rows stay. -/
def Yl (P : Program) (o : Oper) (s : St) (v : AV) : Prop :=
  ∀ (k : Nat) (F : Nat → Prop) (os : List Own) (a : Act) (w : World), Rel F os s a w → ∀ (next : Act → World → Prop) (Q : Exit → Act → World → Prop),
    (∀ a' w', Step k s.n F os w (· = s.put o.dst v) a' w' → next a' w') → o.wp P a w next Q

/-- An operation in such a region that takes memory. -/
def dloud (P : Program) (o : Oper) (s : St) (K : AV → Prop) : Prop :=
  ∃ v, (∀ s0 : St, s0.st = s.st → (∀ x ∈ o.op.operands, s0.ev x = s.ev x) → dstOK s0.n o.dst = true → Yl P o s0 v) ∧ K v

def dstep (P : Program) (o : Oper) (s : St) (K : AV → Prop) : Prop :=
  if isLoud o.op then dloud P o s K else aquiet P s o.op K

theorem aquiet_one {op : Op} {K : AV → Prop} (h : aquiet P s op K) : ∃ v, K v ∧ aquiet P s op (· = v) := by
  unfold aquiet at h ⊢
  split at h
  case h_1 => exact ⟨_, h, rfl⟩
  case h_2 => exact ⟨_, h, rfl⟩
  case h_3 =>
    unfold aPick at h ⊢
    split at h
    · exact ⟨_, h, rfl⟩
    · rename_i t _ _
      cases t
      · exact ⟨_, h.2 rfl, by simp⟩
      · exact ⟨_, h.1 rfl, by simp⟩
    · exact h.elim
  case h_4 =>
    unfold aNil at h ⊢
    split at h
    · obtain ⟨row, h1, h2, h3⟩ := optK_elim h; exact ⟨_, h3, optK_intro row h1 ⟨h2, rfl⟩⟩
    · exact ⟨_, h, rfl⟩
    · exact h.elim
  case h_5 op t x y _ =>
    unfold aBin at h ⊢
    split at h
    · obtain ⟨h1, h⟩ := h
      cases op <;> simp only [aInt] at h ⊢ <;> first | exact h.elim | exact ⟨_, h, h1, rfl⟩ | exact ⟨_, h.2, h1, h.1, rfl⟩
    · obtain ⟨h1, h⟩ := h
      split at h
      · exact ⟨_, h, h1, rfl⟩
      · exact ⟨_, h, h1, rfl⟩
      · exact h.elim
    · exact h.elim
  case h_6 =>
    unfold aUn at h ⊢
    split at h
    · exact ⟨_, h, rfl⟩
    · exact ⟨_, h, rfl⟩
    · exact h.elim
  case h_7 =>
    unfold aConv at h ⊢
    split at h
    · exact ⟨_, h, rfl⟩
    · exact h.elim
  case h_8 t p =>
    obtain ⟨ti, h1, h⟩ := optK_elim h
    have part : ∀ {x : List AV} {off : Nat}, aPart ti.1 ti.2 x off K → ∃ v, K v ∧ aPart ti.1 ti.2 x off (· = v) := fun {x off} h => by
      unfold aPart at h ⊢
      split at h
      · rename_i hh; exact ⟨_, h.2, by rw [if_pos hh]; exact ⟨h.1, rfl⟩⟩
      · rename_i hh; obtain ⟨c, e1, e2⟩ := optK_elim h; exact ⟨c, e2, by rw [if_neg hh]; exact optK_intro c e1 rfl⟩
    unfold aLoad
    generalize s.ev p = pv at h ⊢
    cases pv with
    | ptr id g i off =>
      obtain ⟨row, e1, e2, h⟩ := optK_elim h
      obtain ⟨x, e3, h⟩ := optK_elim h
      obtain ⟨v, hv, h⟩ := part h
      exact ⟨v, hv, optK_intro ti h1 (optK_intro row e1 ⟨e2, optK_intro x e3 h⟩)⟩
    | iptr x off =>
      obtain ⟨v, hv, h⟩ := part h
      exact ⟨v, hv, optK_intro ti h1 h⟩
    | _ => exact h.elim
  case h_9 t x f =>
    obtain ⟨o, h1, h⟩ := optK_elim h
    unfold aFieldAddr
    generalize s.ev x = pv at h ⊢
    cases pv with
    | ptr id g i off =>
      obtain ⟨row, e1, e2, e3, h⟩ := optK_elim h
      exact ⟨_, h, optK_intro o h1 (optK_intro row e1 ⟨e2, e3, rfl⟩)⟩
    | iptr x off => exact ⟨_, h, optK_intro o h1 rfl⟩
    | _ => exact h.elim
  case h_10 =>
    unfold aField at h ⊢
    split at h
    · obtain ⟨g, e1, h⟩ := optK_elim h
      obtain ⟨ti, e2, h⟩ := optK_elim h
      unfold aPart at h
      split at h
      · rename_i hh; exact ⟨_, h.2, optK_intro g e1 (optK_intro ti e2 (by unfold aPart; rw [if_pos hh]; exact ⟨h.1, rfl⟩))⟩
      · rename_i hh; obtain ⟨c, f1, f2⟩ := optK_elim h; exact ⟨c, f2, optK_intro g e1 (optK_intro ti e2 (by unfold aPart; rw [if_neg hh]; exact optK_intro c f1 rfl))⟩
    · exact h.elim
  case h_11 t x i =>
    obtain ⟨ei, e1, h⟩ := optK_elim h
    unfold aIndexAddr
    generalize s.ev x = xv at h ⊢
    generalize s.ev i = iv at h ⊢
    cases xv with
    | own id g n =>
      cases iv with
      | int kk j =>
        obtain ⟨h1, h2, h⟩ := h
        obtain ⟨row, e2, e3, e4, h⟩ := optK_elim h
        exact ⟨_, h, optK_intro ei e1 ⟨h1, h2, optK_intro row e2 ⟨e3, e4, rfl⟩⟩⟩
      | _ => exact h.elim
    | sl xs =>
      cases iv with
      | int kk j =>
        obtain ⟨h1, h⟩ := h
        obtain ⟨y, e2, e3, h⟩ := optK_elim h
        exact ⟨_, h, optK_intro ei e1 ⟨h1, optK_intro y e2 ⟨e3, rfl⟩⟩⟩
      | _ => exact h.elim
    | _ => exact h.elim
  case h_12 =>
    unfold aExtract at h ⊢
    split at h
    · obtain ⟨c, f1, f2⟩ := optK_elim h; exact ⟨c, f2, optK_intro c f1 rfl⟩
    · exact h.elim
  case h_13 =>
    obtain ⟨h1, h⟩ := h
    obtain ⟨fs, e1, h⟩ := optK_elim h
    obtain ⟨z, e2, h⟩ := optK_elim h
    obtain ⟨cs, e3, h⟩ := optK_elim h
    exact ⟨_, h, h1, optK_intro fs e1 (optK_intro z e2 (optK_intro cs e3 rfl))⟩
  case h_14 => exact ⟨_, h.2, h.1, rfl⟩
  case h_15 =>
    split at h
    · obtain ⟨h1, h⟩ := h
      unfold aLen at h ⊢
      split at h
      · obtain ⟨row, e1, e2, h⟩ := optK_elim h; exact ⟨_, h, h1, optK_intro row e1 ⟨e2, rfl⟩⟩
      · exact ⟨_, h, h1, rfl⟩
      · exact ⟨_, h, h1, rfl⟩
      · exact h.elim
    · exact h.elim
  case h_16 =>
    split at h
    · unfold aMax at h ⊢
      split at h
      · exact ⟨_, h, rfl⟩
      · exact h.elim
    · exact h.elim
  case h_17 =>
    split at h
    · unfold aMin at h ⊢
      split at h
      · exact ⟨_, h, rfl⟩
      · exact h.elim
    · exact h.elim
  case h_18 => exact h.elim

theorem dstep_one {o : Oper} {K : AV → Prop} (h : dstep P o s K) : ∃ v, K v ∧ dstep P o s (· = v) := by
  unfold dstep at h ⊢
  split at h
  · rename_i hc
    simp only [hc, if_true]
    obtain ⟨v, h1, h2⟩ := h
    exact ⟨v, h2, v, h1, rfl⟩
  · rename_i hc
    simp only [hc, Bool.false_eq_true, if_false]
    exact aquiet_one h

/-! #### What an operation looks at -/

theorem ev_put {s : St} {d : Option Tmp} {v : AV} {x : Operand} (h : ∀ t, d = some t → x ≠ .tmp t) : (s.put d v).ev x = s.ev x := by
  cases d with
  | none => rfl
  | some d =>
    cases x with
    | tmp t =>
      have hne : t ≠ d := fun e => h d rfl (e ▸ rfl)
      simp [St.ev, St.put, upd, hne]
    | _ => rfl

theorem put_comm (s : St) {x y : Option Tmp} (v u : AV) (h : ∀ d, x = some d → y ≠ some d) : (s.put x v).put y u = (s.put y u).put x v := by
  cases x with
  | none => rfl
  | some d =>
    cases y with
    | none => rfl
    | some e =>
      have hne : d ≠ e := fun he => h d rfl (he ▸ rfl)
      simp only [St.put, St.mk.injEq, true_and, and_true]
      funext t
      simp only [upd]
      by_cases h1 : t = d
      · subst h1; simp [hne]
      · by_cases h2 : t = e
        · subst h2; simp [h1]
        · simp [h1, h2]

theorem put_st (s : St) (d : Option Tmp) (v : AV) : (s.put d v).st = s.st := by cases d <;> rfl

theorem dstep_congr {s s' : St} {o : Oper} {K : AV → Prop} (hst : s'.st = s.st) (h : ∀ x ∈ o.op.operands, s'.ev x = s.ev x) (hd : dstep P o s K) : dstep P o s' K := by
  unfold dstep at hd ⊢
  split at hd
  · rename_i hc
    simp only [hc, if_true]
    obtain ⟨v, h1, h2⟩ := hd
    exact ⟨v, fun s0 e1 e2 e3 => h1 s0 (e1.trans hst) (fun x hx => (e2 x hx).trans (h x hx)) e3, h2⟩
  rename_i hc
  simp only [hc, Bool.false_eq_true, if_false]
  obtain ⟨dst, op, ty, pos, after, guard⟩ := o
  simp only at h hd hc ⊢
  have hlist : ∀ args : Array Operand, (∀ x ∈ args, s'.ev x = s.ev x) → args.toList.map s'.ev = args.toList.map s.ev := fun args ha => List.map_congr_left fun x hx => ha x (by simpa using hx)
  have hparts : ∀ parts : Array (Nat × Operand), (∀ p ∈ parts, s'.ev p.2 = s.ev p.2) → (parts.toList.map fun p => (p.1, s'.ev p.2)) = parts.toList.map fun p => (p.1, s.ev p.2) := fun parts hp => List.map_congr_left fun p hx => by rw [hp p (by simpa using hx)]
  cases op
  case call c =>
    obtain ⟨callee, args, types⟩ := c
    cases callee with
    | value f => exact absurd rfl hc
    | invoke r m => exact hd
    | builtin b =>
      have ha : ∀ x ∈ args, s'.ev x = s.ev x := fun x hx => h x (by simp [Op.operands, Call.operands, hx])
      cases b <;> simp only [aquiet] at hd ⊢ <;> first
        | exact hd
        | (split at hd
           · rename_i h1 h2
             have hx := ha _ (by rw [← Array.mem_toList_iff, h1]; exact List.mem_cons_self)
             rw [hx, hst]; exact hd
           · exact hd.elim)
        | (split at hd
           · rename_i x y h1
             have hx := ha x (by rw [← Array.mem_toList_iff, h1]; simp)
             have hy := ha y (by rw [← Array.mem_toList_iff, h1]; simp)
             rw [hx, hy]; exact hd
           · exact hd.elim)
  case build t parts =>
    simp only [aquiet] at hd ⊢
    rw [hparts parts (fun p hp => h p.2 (by simp only [Op.operands, List.mem_toArray, List.mem_map]; exact ⟨p, by simpa using hp, rfl⟩))]
    exact hd
  case makeFunc fn first caps =>
    cases fn <;> simp only [aquiet] at hd ⊢ <;> try exact hd
    rw [hlist caps (fun x hx => h x (by simp [Op.operands, hx]))]
    exact hd
  all_goals simp only [aquiet, Op.operands, List.mem_toArray, List.mem_cons, List.not_mem_nil, or_false, forall_eq_or_imp, forall_eq] at hd h ⊢
  all_goals first
    | exact hd
    | (rw [h, hst]; exact hd)
    | (rw [h]; exact hd)
    | (rw [h.1, h.2, hst]; exact hd)
    | (rw [h.1, h.2]; exact hd)
    | (rw [h.1, h.2.1, h.2.2]; exact hd)

end Go.Abs

namespace Go.Abs
open Go

variable {P : Program} {F : Nat → Prop} {os : List Own} {s : St} {a : Act} {w : World} {k : Nat} {ops : Array Oper} {md : Region.Mode}

theorem dstep_ok {o : Oper} {v : AV} (hr : Rel F os s a w) (hd : dstOK s.n o.dst = true) (h : dstep P o s (· = v)) {next : Act → World → Prop} {Q : Exit → Act → World → Prop}
    (hn : ∀ a' w', Step k s.n F os w (· = s.put o.dst v) a' w' → next a' w') : o.wp P a w next Q := by
  have hq : aquiet P s o.op (· = v) → o.wp P a w next Q := fun h => by
    obtain ⟨x, u, rfl, h2, h3⟩ := aquiet_ok hr h
    unfold Oper.wp
    rw [h2]
    exact hn _ _ ⟨_, F, os, by cases o.dst <;> rfl, rfl, hr.put hd h3, Ext.refl _ _ _ _⟩
  unfold dstep at h
  split at h
  · obtain ⟨v', h1, rfl⟩ := h
    exact h1 s rfl (fun _ _ => rfl) hd k F os a w hr next Q hn
  · exact hq h

def wantedA (ops : Array Oper) (o : Oper) (s : St) : Option Bool :=
  match o.guard with
  | none => some true
  | some (j, want) => match (ops[j]?).bind (·.dst) with
    | some t => match s.env t with
      | .bool b => some (b == want)
      | .un => some false
      | _ => none
    | none => none

theorem wantedA_ok (hr : Rel F os s a w) (hdst : ∀ o ∈ ops.toList, dstOK s.n o.dst = true) {o : Oper} {b : Bool} (h : wantedA ops o s = some b) : Region.wanted o (yielded ops a.tmps) = b := by
  unfold wantedA at h
  unfold Region.wanted
  split at h
  · rename_i hg; rw [hg]; simpa using h
  · rename_i j want hg
    rw [hg]
    dsimp only
    split at h
    · rename_i t ht
      split at h
      · rename_i b' hb
        simp only [Option.some.injEq] at h
        have hj : (ops[j]?).map (·.dst) = some (some t) := by
          cases ho : ops[j]? with
          | none => rw [ho] at ht; cases ht
          | some oj => rw [ho] at ht; simpa using ht
        have hlt : t < s.n := by
          cases ho : ops[j]? with
          | none => rw [ho] at ht; cases ht
          | some oj =>
            rw [ho] at ht
            simp only [Option.bind_some] at ht
            have := hdst oj (by have := List.mem_of_getElem? (l := ops.toList) (i := j) (by simpa using ho); exact this)
            rw [ht] at this; simpa [dstOK] using this
        rw [yielded_of hr hj hlt hb, ← h]
        cases b' <;> cases want <;> rfl
      · rename_i hb
        simp only [Option.some.injEq] at h
        have hj : (ops[j]?).map (·.dst) = some (some t) := by
          cases ho : ops[j]? with
          | none => rw [ho] at ht; cases ht
          | some oj => rw [ho] at ht; simpa using ht
        have hlt : t < s.n := by
          cases ho : ops[j]? with
          | none => rw [ho] at ht; cases ht
          | some oj =>
            rw [ho] at ht
            simp only [Option.bind_some] at ht
            have := hdst oj (by have := List.mem_of_getElem? (l := ops.toList) (i := j) (by simpa using ho); exact this)
            rw [ht] at this; simpa [dstOK] using this
        rw [yielded_un hr hj hlt hb, ← h]
        rfl
      · cases h
    · cases h

/-- One operation of the region yields this here. -/
def YA (P : Program) (ops : Array Oper) (o : Oper) (v : AV) (s : St) : Prop :=
  (wantedA ops o s = some true ∧ dstep P o s (· = v)) ∨ (wantedA ops o s = some false ∧ v = .un)

def qOpA (P : Program) (ops : Array Oper) (i : Nat) (K : St → Prop) (s : St) : Prop :=
  match ops[i]? with
  | none => K s
  | some o => ∃ v, YA P ops o v s ∧ K (s.put o.dst v)

theorem qOpA_mono {i : Nat} {K K' : St → Prop} (h : ∀ s, K s → K' s) (hh : qOpA P ops i K s) : qOpA P ops i K' s := by
  unfold qOpA at *
  split
  · exact h _ (by simpa [*] using hh)
  · rename_i o ho
    simp only [ho] at hh
    obtain ⟨v, h1, h2⟩ := hh
    exact ⟨v, h1, h _ h2⟩

theorem YA.keep {oi : Oper} {v : AV} {d : Option Tmp} {u : AV} (hy : YA P ops oi v s) (hd : ∀ t, d = some t → t ∉ oi.looksAt ops) : YA P ops oi v (s.put d u) := by
  have hev : ∀ x ∈ oi.op.operands, (s.put d u).ev x = s.ev x := fun x hx => ev_put fun t ht hxt => hd t ht (by
    subst hxt
    exact List.mem_append_left _ (List.mem_filterMap.2 ⟨.tmp t, by simpa using hx, rfl⟩))
  have hw : wantedA ops oi (s.put d u) = wantedA ops oi s := by
    unfold wantedA
    cases hg : oi.guard with
    | none => rfl
    | some p =>
      obtain ⟨j, want⟩ := p
      dsimp only
      cases ht : (ops[j]?).bind (·.dst) with
      | none => rfl
      | some t =>
        dsimp only
        have : (s.put d u).env t = s.env t := ev_put (x := .tmp t) fun t' ht' e => hd t' ht' (by
          cases e
          exact List.mem_append_right _ (by simp [hg, ht]))
        rw [this]
  unfold YA at *
  rw [hw]
  exact hy.imp (fun h => ⟨h.1, dstep_congr (put_st _ _ _) hev h.2⟩) id

theorem qOpA_put {j : Nat} {oi oj : Oper} {v : AV} (hj : ops[j]? = some oj) (hap : oi.apart ops oj = true) {K : St → Prop} (hy : YA P ops oi v s) (h : qOpA P ops j K (s.put oi.dst v)) :
    qOpA P ops j (fun s' => YA P ops oi v s' ∧ K (s'.put oi.dst v)) s := by
  obtain ⟨h1, h2, h3⟩ := Oper.apart_spec hap
  unfold qOpA at *
  simp only [hj] at *
  obtain ⟨u, hu, hK⟩ := h
  refine ⟨u, ?_, hy.keep h3, by rw [← put_comm s v u h2]; exact hK⟩
  -- oj looks at nothing of oi's
  have hev : ∀ x ∈ oj.op.operands, s.ev x = (s.put oi.dst v).ev x := fun x hx => (ev_put fun t ht hxt => h1 t ht (by
    subst hxt
    exact List.mem_append_left _ (List.mem_filterMap.2 ⟨.tmp t, by simpa using hx, rfl⟩))).symm
  have hw : wantedA ops oj s = wantedA ops oj (s.put oi.dst v) := by
    unfold wantedA
    cases hg : oj.guard with
    | none => rfl
    | some p =>
      obtain ⟨j, want⟩ := p
      dsimp only
      cases ht : (ops[j]?).bind (·.dst) with
      | none => rfl
      | some t =>
        dsimp only
        have : (s.put oi.dst v).env t = s.env t := ev_put (x := .tmp t) fun t' ht' e => h1 t' ht' (by
          cases e
          exact List.mem_append_right _ (by simp [hg, ht]))
        rw [this]
  unfold YA at *
  rw [hw]
  exact hu.imp (fun h => ⟨h.1, dstep_congr (put_st _ _ _).symm hev h.2⟩) id

/-- Whatever order is taken of the first n. -/
def anyL (P : Program) (md : Region.Mode) (ops : Array Oper) (n : Nat) (L : Array Bool → St → Prop) : Nat → Array Bool → St → Prop
  | 0, listed, s => L listed s
  | f + 1, listed, s => Region.ready md ops listed ≠ [] ∧ ∀ i ∈ Region.ready md ops listed, i < n ∧ qOpA P ops i (anyL P md ops n L f (listed.setIfInBounds i true)) s

theorem wpOp_of_qOpA {i : Nat} {K : St → Prop} (hdst : ∀ o ∈ ops.toList, dstOK s.n o.dst = true) (hr : Rel F os s a w) (h : qOpA P ops i K s) {next : Act → World → Prop} {Q : Exit → Act → World → Prop}
    (hn : ∀ a' w', Step k s.n F os w K a' w' → next a' w') : wpOp P ops Q i next a w := by
  unfold qOpA at h
  unfold wpOp
  split
  · rename_i ho; simp only [ho] at h; exact hn a w ⟨s, F, os, rfl, h, hr, Ext.refl _ _ _ _⟩
  · rename_i o ho
    simp only [ho] at h
    obtain ⟨v, hy, hK⟩ := h
    have hod := hdst o (by have := List.mem_of_getElem? (l := ops.toList) (i := i) (by simpa using ho); exact this)
    rcases hy with ⟨hw, hs⟩ | ⟨hw, rfl⟩
    · rw [if_pos (wantedA_ok hr hdst hw)]
      refine .inl (dstep_ok (k := k) hr hod hs ?_)
      rintro a' w' ⟨s', F', os', h1, rfl, h3, h4⟩
      exact hn a' w' ⟨_, F', os', h1, hK, h3, h4⟩
    · rw [if_neg (by rw [wantedA_ok hr hdst hw]; simp)]
      exact hn _ w ⟨_, F, os, by cases o.dst <;> rfl, hK, hr.un hod, Ext.refl _ _ _ _⟩

theorem wpAny_of_anyL {n g : Nat} {N : Nat} {L : Array Bool → St → Prop} {Q' : Exit → Act → World → Prop} {F0 : Nat → Prop} {os0 : List Own} {w0 : World} (hdst : ∀ o ∈ ops.toList, dstOK N o.dst = true)
    (hL : ∀ listed s F os a w, s.n = N → L listed s → Rel F os s a w → Ext F0 os0 w0 F os w k → wpAny P md ops Q' g listed a w) :
    ∀ (f : Nat) (listed : Array Bool) (s : St) F os a w, s.n = N → anyL P md ops n L f listed s → Rel F os s a w → Ext F0 os0 w0 F os w k → wpAny P md ops Q' (f + g) listed a w
  | 0, listed, s, F, os, a, w, hn, h, hr, he => by rw [Nat.zero_add]; exact hL _ _ _ _ _ _ hn h hr he
  | f + 1, listed, s, F, os, a, w, hn, h, hr, he => by
    rw [show f + 1 + g = (f + g) + 1 by omega]
    refine ⟨fun h0 => absurd h0 h.1, fun i hi => ?_⟩
    refine wpOp_of_qOpA (k := k) (by rw [hn]; exact hdst) hr (h.2 i hi).2 ?_
    rintro a' w' ⟨s', F', os', h1, h2, h3, h4⟩
    exact wpAny_of_anyL hdst hL f _ s' F' os' a' w' (h1.trans hn) h2 h3 (he.trans h4)

theorem anyL_first {n i : Nat} {oi : Oper} {v : AV} {L : Array Bool → St → Prop} (hi : ops[i]? = some oi)
    (htail : ∀ listed, HeadInv md ops n listed → ∀ i, i < n → listed.getD i true = false → ∀ t, n ≤ t → t ∉ Region.ready md ops listed) (hin : i < n)
    (hdone : ∀ listed s, L listed s → ∀ j ∈ Region.ready md ops listed, n ≤ j) :
    ∀ (f : Nat) (listed : Array Bool) (s : St), HeadInv md ops n listed →
      (∀ j oj, ops[j]? = some oj → j ≠ i → listed.getD j true = false → (∀ e ∈ oj.after, Region.binds md e = true → e.on ≠ i) → oi.apart ops oj = true) →
      i ∈ Region.ready md ops listed → YA P ops oi v s →
      anyL P md ops n L f (listed.setIfInBounds i true) (s.put oi.dst v) → anyL P md ops n L (f + 1) listed s := by
  have hstep : ∀ {K : St → Prop} {s : St}, YA P ops oi v s → K (s.put oi.dst v) → qOpA P ops i K s := fun {K s} hy h => by
    unfold qOpA; simp only [hi]; exact ⟨v, hy, h⟩
  intro f
  induction f with
  | zero =>
    intro listed s inv _ hr hy H
    have hun := (mem_ready.1 hr).1
    refine ⟨fun h => (by rw [h] at hr; cases hr), fun j hj => ?_⟩
    have hjn : j < n := by
      rcases Nat.lt_or_ge j n with h | h
      · exact h
      · exact absurd hj (htail _ inv i hin hun j h)
    refine ⟨hjn, ?_⟩
    by_cases hji : j = i
    · subst hji; exact hstep hy H
    · have := hdone _ _ H j (ready_mono hj hji)
      omega
  | succ f ih =>
    intro listed s inv hfree hr hy H
    have hun := (mem_ready.1 hr).1
    refine ⟨fun h => (by rw [h] at hr; cases hr), fun j hj => ?_⟩
    have hjn : j < n := by
      rcases Nat.lt_or_ge j n with h | h
      · exact h
      · exact absurd hj (htail _ inv i hin hun j h)
    refine ⟨hjn, ?_⟩
    by_cases hji : j = i
    · subst hji; exact hstep hy H
    · have h1 := (H.2 j (ready_mono hj hji)).2
      obtain ⟨hjun, oj, hoj, hall⟩ := mem_ready.1 hj
      have hnot : ∀ e ∈ oj.after, Region.binds md e = true → e.on ≠ i := fun e he hb heq => by
        have h1 := hall e he hb
        rw [heq, getD_both hun] at h1
        cases h1
      have h2 := qOpA_put hoj (hfree j oj hoj hji hjun hnot) hy h1
      have hfree' : ∀ k ok, ops[k]? = some ok → k ≠ i → (listed.setIfInBounds j true).getD k true = false →
          (∀ e ∈ ok.after, Region.binds md e = true → e.on ≠ i) → oi.apart ops ok = true := fun k ok hk hki hun hno => by
        refine hfree k ok hk hki ?_ hno
        by_cases hjk : j = k
        · subst hjk; exact hjun
        · rw [getD_set_ne true hjk] at hun; exact hun
      refine qOpA_mono (fun a' h3 => ih (listed.setIfInBounds j true) a' (inv.set hj hjn) hfree' (ready_mono hr (Ne.symm hji)) h3.1 ?_) h2
      rw [Array.setIfInBounds_comm _ _ hji]
      exact h3.2

/-- The head, walked in the order of the text. -/
def dops (P : Program) : List (Option Tmp) → List Oper → (St → Prop) → St → Prop
  | _, [], K, s => K s
  | ds, o :: r, K, s => aguard ds o s (dstep P o s fun v => dops P (ds ++ [o.dst]) r K (s.put o.dst v)) (dops P (ds ++ [o.dst]) r K (s.put o.dst .un))

theorem dguard_ok {ds : List (Option Tmp)} {o : Oper} {A B : Prop} (hds : ∀ (j : Nat) d, ds[j]? = some d → (ops[j]?).map (·.dst) = some d) (h : aguard ds o s A B) :
    (wantedA ops o s = some true ∧ A) ∨ (wantedA ops o s = some false ∧ B) := by
  unfold aguard at h
  unfold wantedA
  split at h
  · rename_i hg; rw [hg]; exact .inl ⟨rfl, h⟩
  · rename_i j want hg
    rw [hg]
    dsimp only
    split at h
    · rename_i t ht
      unfold aGd at h
      split at h
      · rename_i b hb
        have := hds j _ ht
        have hj : (ops[j]?).bind (·.dst) = some t := by
          cases ho : ops[j]? with
          | none => rw [ho] at this; cases this
          | some oj => rw [ho] at this; simpa using this
        rw [hj]
        dsimp only
        rw [hb]
        by_cases hbw : b = want
        · exact .inl ⟨by simp [hbw], h.1 hbw⟩
        · exact .inr ⟨by simp [hbw], h.2 hbw⟩
      · rename_i hb
        have := hds j _ ht
        have hj : (ops[j]?).bind (·.dst) = some t := by
          cases ho : ops[j]? with
          | none => rw [ho] at this; cases this
          | some oj => rw [ho] at this; simpa using this
        rw [hj]
        dsimp only
        rw [hb]
        exact .inr ⟨rfl, h⟩
      · exact h.elim
    · exact h.elim

theorem anyL_lex {n g : Nat} {K : St → Prop} (htail : ∀ listed, HeadInv md ops n listed → ∀ i, i < n → listed.getD i true = false → ∀ t, n ≤ t → t ∉ Region.ready md ops listed) :
    ∀ (l : List Oper) (ds : List (Option Tmp)) (listed : Array Bool) (s : St), (∀ (j : Nat), j < l.length → l[j]? = ops[ds.length + j]?) → (∀ (j : Nat) d, ds[j]? = some d → (ops[j]?).map (·.dst) = some d) → ds.length + l.length = n → HeadInv md ops n listed →
    Region.lexHead md ops g l.length ds.length listed = true → dops P ds l K s →
    anyL P md ops n (fun listed' s' => Region.seqB md ops g n listed' = true ∧ K s') l.length listed s
  | [], ds, listed, s, _, _, hk, _, hB, h => by
    have : ds.length = n := by simpa using hk
    subst this
    exact ⟨by simpa [Region.lexHead] using hB, h⟩
  | o :: l, ds, listed, s, hl, hds, hk, inv, hB, h => by
    have h0 : ops[ds.length]? = some o := by simpa using (hl 0 (by simp)).symm
    simp only [List.length_cons, Region.lexHead, Bool.and_eq_true] at hB
    obtain ⟨⟨hr, hf⟩, hB'⟩ := hB
    have hkn : ds.length < n := by simp only [List.length_cons] at hk; omega
    have hr' : ds.length ∈ Region.ready md ops listed := by simpa using hr
    have hds' : ∀ (j : Nat) d, (ds ++ [o.dst])[j]? = some d → (ops[j]?).map (·.dst) = some d := fun j d hj => by
      rcases Nat.lt_trichotomy j ds.length with h1 | h1 | h1
      · rw [List.getElem?_append_left h1] at hj; exact hds j d hj
      · subst h1; rw [new_get, Option.some.injEq] at hj; rw [h0]; simp [hj]
      · rw [List.getElem?_eq_none (by simp; omega)] at hj; cases hj
    have hrec : ∀ s', dops P (ds ++ [o.dst]) l K s' → anyL P md ops n (fun listed' s' => Region.seqB md ops g n listed' = true ∧ K s') l.length (listed.setIfInBounds ds.length true) s' := fun s' hs' =>
      anyL_lex htail l (ds ++ [o.dst]) _ s' (fun j hj => by
        have := hl (j + 1) (by simp; omega)
        simp only [List.getElem?_cons_succ] at this
        rw [this]; congr 1; simp; omega) hds' (by simp only [List.length_cons, List.length_append, List.length_nil] at hk ⊢; omega) (inv.set hr' hkn) (by simpa using hB') hs'
    have hfirst : ∀ v, YA P ops o v s → dops P (ds ++ [o.dst]) l K (s.put o.dst v) → anyL P md ops n (fun listed' s' => Region.seqB md ops g n listed' = true ∧ K s') (l.length + 1) listed s := fun v hy hK =>
      anyL_first h0 htail hkn (fun listed' s' hL => seqB_ready hL.1) l.length listed s inv (Region.free_spec h0 hf) hr' hy (hrec _ hK)
    simp only [dops] at h
    rcases dguard_ok hds h with ⟨hw, h1⟩ | ⟨hw, h1⟩
    · obtain ⟨v, hK, hstep⟩ := dstep_one h1
      exact hfirst v (.inl ⟨hw, hstep⟩) hK
    · exact hfirst .un (.inr ⟨hw, rfl⟩) h1

theorem Rel.drew (hr : Rel F os s a w) : Rel F os s a w.drew ∧ Ext F os w F os w.drew k := by
  have := hr.onto (k := k) (w' := w.drew) (b := none) ⟨rfl, rfl, rfl, Nat.le_refl _, fun _ _ _ => rfl⟩ (by simp) (HosLe.refl os) (fun i o ho => .inl ⟨ho, by simp⟩) hr.inj (fun o ho g hg => .inr ⟨o, ho, hg⟩) (by simp)
  refine ⟨?_, this.2.1⟩
  have h1 := this.1
  rw [hr.st] at h1
  exact h1

theorem headInv0 (n : Nat) : HeadInv .any ops n (Array.replicate ops.size false) :=
  ⟨by simp, fun j oj _ hl => (by rw [getD_replicate_false] at hl; cases hl), fun t _ ht => getD_in (by simpa using ht) (getD_replicate_false _ _)⟩

theorem AW.draw {id : Nat} {Q : Exit → St → Prop} (hm : P.follows .mixedOrders = true) (hB : Region.lexHead .any ops 0 ops.size 0 (Array.replicate ops.size false) = true) (hd : (ops.toList.all fun o => dstOK s.n o.dst) = true)
    (h : dops P [] ops.toList (fun s' => Q .normal s') s) : AW P k (.region id ops true) Q s := by
  intro F os a w hr
  obtain ⟨hr1, he1⟩ := hr.drew (k := k)
  refine wp_region_any hm ?_
  have H := anyL_lex (md := .any) (ops := ops) (n := ops.size) (g := 0) (K := fun s' => Q .normal s') (P := P) (fun listed _ i _ _ t ht hr => by
      obtain ⟨_, o, ho, _⟩ := mem_ready.1 hr
      have := (Array.getElem?_eq_some_iff.1 ho).1
      omega) ops.toList [] _ s (by simp) (by simp) (by simp) (headInv0 _) (by simpa using hB) h
  have := wpAny_of_anyL (k := k) (g := 0) (N := s.n) (Q' := Post k Q F os w) (F0 := F) (os0 := os) (w0 := w) (fun o ho => List.all_eq_true.1 hd o ho) (fun listed s' F' os' a' w' _ hL hr' he => by
    refine ⟨by simpa [Region.seqB] using hL.1, ?_⟩
    exact ⟨s', F', os', hL.2, hr', he⟩) _ _ s F os a w.drew rfl H hr1 he1
  simpa using this

theorem AW.drawTail {id : Nat} {Q : Exit → St → Prop} (n : Nat) (hm : P.follows .mixedOrders = true) (hB : Region.lexTailB .any ops n = true) (hd : (ops.toList.all fun o => dstOK s.n o.dst) = true)
    (h : dops P [] (ops.toList.take n) (fun s' => aops P k ((ops.toList.take n).map (·.dst)) (ops.toList.drop n) (fun s' => Q .normal s') s') s) : AW P k (.region id ops true) Q s := by
  simp only [Region.lexTailB, Bool.and_eq_true, decide_eq_true_eq] at hB
  obtain ⟨⟨⟨⟨_, hn⟩, hs⟩, hc⟩, hlex⟩ := hB
  intro F os a w hr
  obtain ⟨hr1, he1⟩ := hr.drew (k := k)
  refine wp_region_any hm ?_
  have htl : (ops.toList.take n).length = n := by simp; omega
  have hdl : (ops.toList.drop n).length = ops.size - n := by simp
  have H := anyL_lex (md := .any) (ops := ops) (n := n) (g := ops.size - n) (P := P) (K := fun s' => aops P k ((ops.toList.take n).map (·.dst)) (ops.toList.drop n) (fun s' => Q .normal s') s')
    (fun listed inv i hi hun t ht => tail_waits hs hc hn inv _ i rfl hi hun t ht) (ops.toList.take n) [] _ s (fun j hj => by
      rw [htl] at hj; rw [List.getElem?_take, if_pos hj]; simp) (by simp) (by simpa using htl) (headInv0 _) (by rw [htl]; exact hlex) h
  have := wpAny_of_anyL (k := k) (g := ops.size - n) (N := s.n) (Q' := Post k Q F os w) (F0 := F) (os0 := os) (w0 := w) (fun o ho => List.all_eq_true.1 hd o ho) (fun listed s' F' os' a' w' hn' hL hr' he => by
    have h1 := aops_wp (s := s) (ops := ops) (Q := Post k Q F os w) (fun o ho => List.all_eq_true.1 hd o ho) (K := fun s' => Q .normal s') (ops.toList.drop n) ((ops.toList.take n).map (·.dst)) (fun j => by
        rw [List.length_map, htl, List.getElem?_drop]; simp) (fun j d hj => by
        simp only [List.getElem?_map, List.getElem?_take] at hj
        split at hj
        · simpa using hj
        · cases hj) s' F' os' a' w' hn' hL.2 hr' (fun a2 w2 ⟨s2, F2, os2, _, h1, h2, h3⟩ => ⟨s2, F2, os2, h1, h2, he.trans h3⟩)
    have h2 := wpAny_of_seq (md := .any) (Q' := Post k Q F os w) (ops.toList.drop n) n listed a' w' (fun j => by simp [List.getElem?_drop]) (by rw [hdl]; exact hL.1) h1
    rwa [hdl] at h2) _ _ s F os a w.drew rfl H hr1 he1
  rw [htl, show n + (ops.size - n) = ops.size by omega] at this
  exact this

end Go.Abs

namespace Go.Abs
open Go

variable {P : Program} {F : Nat → Prop} {os : List Own} {s : St} {a : Act} {w : World} {k : Nat}

/-! ### Entering a function, and its end -/

def envOf (args : List AV) : Nat → AV := fun t => args.getD t .junk

def aresVals (P : Program) (s : St) : List ResultVar → (List AV → Prop) → Prop
  | [], K => K []
  | .tmp t :: r, K => aresVals P s r fun vs => K (s.env t :: vs)
  | .cell p t :: r, K => aLoad P s.st t (s.env p) fun v => aresVals P s r fun vs => K (v :: vs)

def tupOf : List AV → AV
  | [v] => v
  | vs => .tup vs

def aret (P : Program) (k : Nat) (fn : Func) (R : AV → List Row → Prop) : Exit → St → Prop
  | .normal, s | .ret, s => ∃ s', Wk k s s' ∧ aresVals P s' fn.results.toList fun vs => R (tupOf vs) s'.st
  | _, _ => False

def valOf : List Value → Value
  | [v] => v
  | vs => .tuple vs.toArray

def resOne (tmps : Array Value) : ResultVar → Sem Value
  | .tmp t => pure (tmps.getD t undef)
  | .cell p t => do loadVar t (← asAddr (tmps.getD p undef))

theorem results_run {fn : Func} {vs : List Value} (tmps : Array Value) (h : (fn.results.toList.mapM (resOne tmps)).run P w = .ok vs w) :
    (results fn tmps).run P w = .ok (valOf vs) w := by
  have e : results fn tmps = (do let vs ← fn.results.mapM (resOne tmps); pure (if h : vs.size = 1 then vs[0] else .tuple vs)) := rfl
  rw [e, Sem.run_bind, Array.mapM_eq_mapM_toList, Sem.run_map, h]
  simp only [Result.andThen_ok, Sem.run_pure]
  congr 1
  match vs with
  | [] => simp [valOf]
  | [v] => simp [valOf]
  | v :: v' :: r => simp [valOf]

theorem aresVals_ok (hr : Rel F os s a w) : ∀ (l : List ResultVar) (K : List AV → Prop), aresVals P s l K →
    ∃ vs us, K vs ∧ (l.mapM (resOne a.tmps)).run P w = .ok us w ∧ RepL F w os vs us
  | [], K, h => ⟨[], [], h, by simp, by simp [RepL]⟩
  | .tmp t :: r, K, h => by
    obtain ⟨vs, us, h1, h2, h3⟩ := aresVals_ok hr r _ h
    refine ⟨_, a.tmps.getD t undef :: us, h1, ?_, by simp only [RepL]; exact ⟨_, _, rfl, hr.env t, h3⟩⟩
    simp only [List.mapM_cons, Sem.run_bind, resOne, Sem.run_pure, Result.andThen_ok, h2]
  | .cell p t :: r, K, h => by
    obtain ⟨v, u, h1, h2, h3⟩ := aLoad_ok (P := P) hr h (hr.env p)
    obtain ⟨vs, us, e1, e2, e3⟩ := aresVals_ok hr r _ h1
    refine ⟨_, u :: us, e1, ?_, by simp only [RepL]; exact ⟨_, _, rfl, h3, e3⟩⟩
    have hp : ∃ ad, a.tmps.getD p undef = .pointer (some ad) := by
      unfold Instr.loadAt at h2
      generalize a.tmps.getD p undef = pv at h2
      unfold Instr.sureAddr at h2
      split at h2
      · exact ⟨_, rfl⟩
      · simp at h2
    obtain ⟨ad, had⟩ := hp
    rw [had] at h2
    simp only [Instr.loadAt, Instr.sureAddr, Sem.run_bind, Sem.run_pure, Result.andThen_ok] at h2
    have ha : (asAddr (a.tmps.getD p undef)).run P w = .ok ad w := by rw [had]; rfl
    simp only [List.mapM_cons, Sem.run_bind, resOne, ha, Sem.run_pure, Result.andThen_ok, h2, e2]

theorem ACalls.intro {f : FuncId} {fn : Func} {c : Code} {args : List AV} {st : List Row} {R : AV → List Row → Prop} (hf : P.funcs[f]? = some fn) (hb : fn.body = some c) (hn : args.length ≤ fn.ntmps)
    (h : AW P st.length c (aret P st.length fn R) ⟨fn.ntmps, envOf args, st⟩) : ACalls P f args st R := by
  intro F os w vs hs hl
  refine calls_of_wp hf hb ?_
  have hlen := repL_length hl
  have hrel : Rel F os ⟨fn.ntmps, envOf args, st⟩ { tmps := vs.toArray ++ Array.replicate (fn.ntmps - vs.toArray.size) undef, defers := [] } w := by
    refine ⟨hs.st, fun t => ?_, by simp; omega, hs.rows, hs.inj, hs.old, rfl⟩
    simp only [envOf, List.getD_eq_getElem?_getD, Array.getD_eq_getD_getElem?]
    by_cases ht : t < args.length
    · rw [List.getElem?_eq_getElem ht, Option.getD_some]
      obtain ⟨u, e1, e2⟩ := repL_get hl t _ (List.getElem?_eq_getElem ht)
      rw [Array.getElem?_append_left (by simp; omega)]
      simp only [List.getElem?_toArray, e1, Option.getD_some]
      exact e2
    · rw [List.getElem?_eq_none (by omega), Option.getD_none]
      simp [Rep]
  refine wp_mono (h F os _ w hrel) ?_
  rintro e a' w' ⟨s', F', os', hQ, hR, hE⟩
  have fin : (∃ s2, Wk st.length s' s2 ∧ aresVals P s2 fn.results.toList fun vs => R (tupOf vs) s2.st) → a'.defers = [] ∧ ∃ v, (results fn a'.tmps).run P w' = .ok v w' ∧
      ∃ v2 r st' F' os', Ending.returned v = .returned v2 ∧ R r st' ∧ StoreOK F' os' st' w' ∧ Rep F' w' os' r v2 ∧ Ext F os w F' os' w' st.length := fun ⟨s2, hw, hres⟩ => by
    obtain ⟨F2, os2, hR2, hE2⟩ := hw F' os' a' w' hR
    obtain ⟨rs, us, h1, h2, h3⟩ := aresVals_ok hR2 _ _ hres
    refine ⟨hR2.defers, _, results_run a'.tmps h2, _, _, s2.st, F2, os2, rfl, h1, hR2.store, ?_, hE.trans hE2⟩
    match rs, us, h3 with
    | [], us, h3 => simp only [RepL] at h3; subst h3; simp [tupOf, Rep, RepL, valOf]
    | [r], us, h3 =>
      simp only [RepL] at h3
      obtain ⟨u, _, rfl, h4, rfl⟩ := h3
      exact h4
    | r :: r' :: rs, us, h3 =>
      have h3' := h3
      simp only [RepL] at h3'
      obtain ⟨u, _, rfl, _, u', us, rfl, _⟩ := h3'
      simp only [tupOf, Rep]
      exact ⟨_, rfl, h3⟩
  cases e with
  | normal => exact fin hQ
  | ret => exact fin hQ
  | exit id => exact hQ.elim
  | goto l => exact hQ.elim
  | panic ch => exact hQ.elim
  | outgrown => exact hQ.elim

/-! ### One state for another -/

theorem Wk.env {e' : Nat → AV} (h : ∀ t, e' t = s.env t ∨ e' t = .junk) : Wk k s { s with env := e' } := fun F os a w hr =>
  ⟨F, os, ⟨hr.st, fun t => by rcases h t with e | e <;> simp only [e]; exact hr.env t; simp [Rep], hr.size, hr.rows, hr.inj, hr.old, hr.defers⟩, Ext.refl _ _ _ _⟩

/-- An empty slice of no capacity is an empty slice. -/
theorem Wk.zcSl {t : Nat} (h : s.env t = .zc) : Wk k s { s with env := upd s.env t (.sl []) } := fun F os a w hr => by
  refine ⟨F, os, ⟨hr.st, fun j => ?_, hr.size, hr.rows, hr.inj, hr.old, hr.defers⟩, Ext.refl _ _ _ _⟩
  simp only [upd]
  split
  · rename_i e; subst e
    have := hr.env j
    rw [h] at this
    simp only [Rep] at this ⊢
    obtain ⟨ad, e⟩ := this
    exact ⟨ad, 0, by simpa using e, by simp, by simp⟩
  · exact hr.env j

/-- An empty slice of no capacity becomes a row of the call's own. -/
theorem Wk.adopt {t : Nat} (h : s.env t = .zc) (e : TypeId) {size : Nat} (hpos : 0 < size) : Wk k s { s with env := upd s.env t (.own s.st.length 0 0), st := s.st ++ [⟨0, e, size, []⟩] } := fun F os a w hr => by
  obtain ⟨h1, h2, h3⟩ := hr.addNone (k := k) (e := e) hpos
  refine ⟨F, _, ⟨h1.st, fun j => ?_, h1.size, h1.rows, h1.inj, h1.old, h1.defers⟩, h2⟩
  simp only [upd]
  split
  · rename_i ej; subst ej
    have := hr.env j
    rw [h] at this
    simp only [Rep] at this ⊢
    obtain ⟨ad, ead⟩ := this
    exact ⟨⟨⟨0, e, size, []⟩, none, 0, none'⟩, by rw [hr.len]; exact new_get _ _, Nat.le_refl _, ⟨_, _, _, ead⟩, fun _ => ⟨Nat.zero_le _, .inl ⟨rfl, ad, ead⟩⟩⟩
  · exact h1.env j

def idx (l : List Nat) (x : Nat) : Option Nat := l.findIdx? (· == x)

def ren1 (sel : List Nat) : AV → AV
  | .own id g n => match idx sel id with
    | some j => .own j g n
    | none => .junk
  | .ptr id g i off => match idx sel id with
    | some j => .ptr j g i off
    | none => .junk
  | .fn .. | .agg _ | .tup _ => .junk
  | v => v

theorem ren1_dv {sel : List Nat} {c : AV} {el s : Nat} {ys : List (List AV)} (h : ren1 sel c = .dv el s ys) : c = .dv el s ys := by
  cases c <;> simp only [ren1] at h <;> first | exact h | cases h | (split at h <;> cases h)

def ren (sel : List Nat) : AV → AV
  | .fn f cs => .fn f (cs.map (ren1 sel))
  | .agg cs => .agg (cs.map (ren1 sel))
  | .tup cs => .tup (cs.map (ren1 sel))
  | v => ren1 sel v

theorem rep_ren1 {sel : List Nat} {os' : List Own} (hos : ∀ j id, idx sel id = some j → os'[j]? = os[id]?) {x : AV} {v : Value} (h : Rep F w os x v) : Rep F w os' (ren1 sel x) v := by
  cases x with
  | own id g n =>
    simp only [ren1]
    split
    · rename_i j hj
      simp only [Rep] at h ⊢
      rw [hos j id hj]; exact h
    · simp [Rep]
  | ptr id g i off =>
    simp only [ren1]
    split
    · rename_i j hj
      simp only [Rep] at h ⊢
      rw [hos j id hj]; exact h
    · simp [Rep]
  | fn f cs => simp [ren1, Rep]
  | agg cs => simp [ren1, Rep]
  | tup cs => simp [ren1, Rep]
  | _ => simp only [ren1, Rep] at h ⊢ <;> exact h

theorem repL_ren1 {sel : List Nat} {os' : List Own} (hos : ∀ j id, idx sel id = some j → os'[j]? = os[id]?) {xs : List AV} {us : List Value} (h : RepL F w os xs us) : RepL F w os' (xs.map (ren1 sel)) us :=
  repL_mk (by simp [repL_length h]) fun i x u hx hu => by
    simp only [List.getElem?_map, Option.map_eq_some_iff] at hx
    obtain ⟨y, hy, rfl⟩ := hx
    obtain ⟨u', e1, e2⟩ := repL_get h i y hy
    rw [hu] at e1; cases e1
    exact rep_ren1 hos e2

theorem rep_ren {sel : List Nat} {os' : List Own} (hos : ∀ j id, idx sel id = some j → os'[j]? = os[id]?) {x : AV} {v : Value} (h : Rep F w os x v) : Rep F w os' (ren sel x) v := by
  cases x with
  | fn f cs => simp only [ren, Rep] at h ⊢; obtain ⟨us, e, hl⟩ := h; exact ⟨us, e, repL_ren1 hos hl⟩
  | agg cs => simp only [ren, Rep] at h ⊢; obtain ⟨us, e, hl⟩ := h; exact ⟨us, e, repL_ren1 hos hl⟩
  | tup cs => simp only [ren, Rep] at h ⊢; obtain ⟨us, e, hl⟩ := h; exact ⟨us, e, repL_ren1 hos hl⟩
  | _ => exact rep_ren1 hos h

/-- A cell that reads the same over the rows that are kept. -/
def stays (sel : List Nat) : AV → Bool
  | .own id _ _ | .ptr id _ _ _ => sel[id]? == some id
  | .fn .. | .agg _ | .tup _ => false
  | _ => true

theorem rep_stays {sel : List Nat} {os' : List Own} (hos : ∀ (j id : Nat), sel[j]? = some id → os'[j]? = os[id]?) {x : AV} {v : Value} (hx : stays sel x = true) (h : Rep F w os x v) : Rep F w os' x v := by
  cases x with
  | own id g n =>
    simp only [stays, beq_iff_eq] at hx
    simp only [Rep] at h ⊢
    rw [hos _ _ hx]; exact h
  | ptr id g i off =>
    simp only [stays, beq_iff_eq] at hx
    simp only [Rep] at h ⊢
    rw [hos _ _ hx]; exact h
  | fn f cs => simp [stays] at hx
  | agg cs => simp [stays] at hx
  | tup cs => simp [stays] at hx
  | _ => simp only [Rep] at h ⊢ <;> exact h

def pickRows (st : List Row) (sel : List Nat) : List Row := sel.filterMap (st[·]?)

/-- Rows are dropped, and put in another order. -/
theorem Wk.select (sel : List Nat) (hk : ∀ i, i < k → sel[i]? = some i) (hnd : sel.Nodup) (hlt : ∀ i ∈ sel, i < s.st.length)
    (hrows : ∀ i ∈ sel, ∀ row, s.st[i]? = some row → ∀ x ∈ row.xs, ∀ c ∈ x, stays sel c = true) : Wk k s ⟨s.n, fun t => ren sel (s.env t), pickRows s.st sel⟩ := fun F os a w hr => by
  have hlen := hr.len
  have hos1 : ∀ (j id : Nat), sel[j]? = some id → (sel.filterMap (os[·]?))[j]? = os[id]? := by
    have : ∀ (l : List Nat), (∀ i ∈ l, i < os.length) → ∀ (j id : Nat), l[j]? = some id → (l.filterMap (os[·]?))[j]? = os[id]? := fun l => by
      induction l with
      | nil => intro _ j id h; simp at h
      | cons i l ih =>
        intro hl j id h
        have hi := hl i (by simp)
        rw [List.filterMap_cons, List.getElem?_eq_getElem hi]
        cases j with
        | zero => simp only [List.getElem?_cons_zero, Option.some.injEq] at h; subst h; simp [List.getElem?_eq_getElem hi]
        | succ j => simp only [List.getElem?_cons_succ] at h ⊢; exact ih (fun x hx => hl x (by simp [hx])) j id h
    exact this sel (fun i hi => by rw [← hlen]; exact hlt i hi)
  have hos2 : ∀ j id, idx sel id = some j → (sel.filterMap (os[·]?))[j]? = os[id]? := fun j id h => by
    refine hos1 j id ?_
    unfold idx at h
    rw [List.findIdx?_eq_some_iff_getElem] at h
    obtain ⟨hj, he, _⟩ := h
    rw [List.getElem?_eq_getElem hj]
    simpa using he
  have hget : ∀ (j : Nat) (o : Own), (sel.filterMap (os[·]?))[j]? = some o → ∃ id, sel[j]? = some id ∧ os[id]? = some o := fun j o h => by
    have hl2 : (sel.filterMap (os[·]?)).length = sel.length := by
      have : ∀ (l : List Nat), (∀ i ∈ l, i < os.length) → (l.filterMap (os[·]?)).length = l.length := fun l => by
        induction l with
        | nil => simp
        | cons i l ih => intro hl; rw [List.filterMap_cons, List.getElem?_eq_getElem (hl i (by simp))]; simp [ih (fun x hx => hl x (by simp [hx]))]
      exact this sel (fun i hi => by rw [← hlen]; exact hlt i hi)
    have hj : j < sel.length := by rw [← hl2]; exact (List.getElem?_eq_some_iff.1 h).1
    refine ⟨sel[j], List.getElem?_eq_getElem hj, ?_⟩
    rw [← hos1 j _ (List.getElem?_eq_getElem hj)]; exact h
  refine ⟨F, sel.filterMap (os[·]?), ⟨?_, fun t => rep_ren hos2 (hr.env t), hr.size, fun j o ho => ?_, fun i j oi oj b hi hj hbi hbj => ?_, hr.old, hr.defers⟩, ⟨rfl, rfl, rfl, Nat.le_refl _, fun _ h => h, fun _ _ => rfl, fun b _ h1 h2 => ⟨rfl, h1, fun o ho => ?_⟩, fun i o hi ho => ⟨o, by rw [hos1 i i (hk i hi)]; exact ho, Nat.le_refl _, rfl, fun _ => ⟨rfl, rfl, rfl⟩⟩⟩⟩
  · simp only [pickRows, ← hr.st, List.map_filterMap]
    congr 1
    funext i
    simp
  · obtain ⟨id, hid, hoid⟩ := hget j o ho
    have hok := hr.rows id o hoid
    refine ⟨hok.pos, hok.lens, hok.none, fun b hb => ?_, hok.mo, hok.deep⟩
    obtain ⟨h1, cur, h2, h3, h4, h5, h6⟩ := hok.some b hb
    refine ⟨h1, cur, h2, h3, h4, h5, fun i x hx j' c hc => ?_⟩
    obtain ⟨u, e1, e2⟩ := h6 i x hx j' c hc
    refine ⟨u, e1, rep_stays hos1 (hrows id (List.mem_of_getElem? hid) o.row ?_ x (List.mem_of_getElem? hx) c (List.mem_of_getElem? hc)) e2⟩
    rw [← hr.st, List.getElem?_map, hoid]; rfl
  · obtain ⟨id, hid, hoid⟩ := hget i oi hi
    obtain ⟨id', hid', hoid'⟩ := hget j oj hj
    have e := hr.inj id id' oi oj b hoid hoid' hbi hbj
    subst e
    have hi' := List.getElem?_eq_some_iff.1 hid
    have hj' := List.getElem?_eq_some_iff.1 hid'
    obtain ⟨hi1, hi2⟩ := hi'
    obtain ⟨hj1, hj2⟩ := hj'
    have hp := List.pairwise_iff_getElem.1 hnd
    rcases Nat.lt_trichotomy i j with h | h | h
    · exact absurd (hi2.trans hj2.symm) (hp i j hi1 hj1 h)
    · exact h
    · exact absurd (hj2.trans hi2.symm) (hp j i hj1 hi1 h)
  · simp only [List.mem_filterMap] at ho
    obtain ⟨i, _, hi⟩ := ho
    exact h2 o (List.mem_of_getElem? hi)

end Go.Abs
