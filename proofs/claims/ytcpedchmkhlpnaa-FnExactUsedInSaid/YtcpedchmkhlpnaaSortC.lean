import Derived.Test.YtcpedchmkhlpnaaGEncCToUGDefs
import Derived.Sort.OwnSortedInts

namespace Go.Abs
open Go Go.Sort RC
theorem StoreOK.turn {F : Nat → Prop} {o o' : Own} {w w' : World} {st : List Row} (hS : StoreOK F [o] st w) (ht : Turns w w' o.blk) (hs : o'.row.size = o.row.size) (hg : o.row.gen ≤ o'.row.gen)
  (h3 : o'.row.gen = o.row.gen → o'.row.xs.length = o.row.xs.length) (hb : o'.blk = o.blk) (hc : o'.cap = o.cap) (hm : o'.more = o.more) (hok : OwnOK F w' [o'] o') : StoreOK F [o'] [o'.row] w' ∧ Ext F [o] w F [o'] w' st.length := by
 have h0 := hS.rows 0 o rfl
 have hown : ∀ b, o'.owns b ↔ o.owns b := fun b => by unfold Own.owns; rw [hb, hm]
 refine ⟨⟨rfl, fun i oi hi => ?_, fun i j oi oj b hi hj _ _ => ?_, fun b hF => Nat.lt_of_lt_of_le (hS.old b hF) ht.size⟩, ⟨ht.sys, ht.tape, ht.output, ht.size, fun _ h => h, fun b hF => ht.old b (hS.old b hF) (fun e => h0.nF (.inl e) hF), fun b hlt hF hn => ⟨ht.old b hlt (fun e => hn o (by simp) (.inl e)), hF, fun q hq => ?_⟩, fun i oi _ hi => ?_⟩⟩
 ·cases i with
  | zero => simp only [List.getElem?_cons_zero, Option.some.injEq] at hi; subst hi; exact hok
  | succ i => simp at hi
 ·have : i < 1 := (List.getElem?_eq_some_iff.1 hi).1
  have : j < 1 := (List.getElem?_eq_some_iff.1 hj).1
  omega
 ·simp only [List.mem_singleton] at hq
  subst hq
  rw [hown]
  exact hn o (by simp)
 ·cases i with
  | zero =>
   simp only [List.getElem?_cons_zero, Option.some.injEq] at hi
   subst hi
   exact ⟨o', rfl, hg, hs, fun e => ⟨hb, hc, h3 e⟩⟩
  | succ i => simp at hi
theorem cells_ints {F : Nat → Prop} {w : World} {os : List Own} {cur : Array Value} {l : List Int} (h : ∀ (i : Nat) x, (l.map eI)[i]? = some x → ∀ (j : Nat) c, x[j]? = some c → ∃ u, cur[i * 1 + j]? = some u ∧ Rep F w os c u) : cur.toList.take l.length = l.map (Value.int .i64) := by
 apply List.ext_getElem?
 intro j
 by_cases hj : j < l.length
 ·rw [List.getElem?_take_of_lt hj, Array.getElem?_toList, List.getElem?_map, List.getElem?_eq_getElem hj]
  obtain ⟨u, h1, h2⟩ := h j (eI l[j]) (by rw [List.getElem?_map, List.getElem?_eq_getElem hj]; rfl) 0 _ rfl
  rw [Nat.mul_one, Nat.add_zero] at h1
  simp only [Rep] at h2
  rw [h1, h2]; rfl
 ·rw [List.getElem?_take_eq_none (by omega), List.getElem?_eq_none (by simp; omega)]
theorem ints_cells {F : Nat → Prop} {w : World} {os : List Own} {cur : Array Value} {l : List Int} (h : cur.toList.take l.length = l.map (Value.int .i64)) : ∀ (i : Nat) x, (l.map eI)[i]? = some x → ∀ (j : Nat) c, x[j]? = some c → ∃ u, cur[i * 1 + j]? = some u ∧ Rep F w os c u := by
 intro i x hx j c hc
 rw [List.getElem?_map, Option.map_eq_some_iff] at hx
 obtain ⟨z, hz, rfl⟩ := hx
 have hi := (List.getElem?_eq_some_iff.1 hz).1
 cases j with
 | zero =>
  have : c = i64 z := by simpa [eI] using hc.symm
  subst this
  have h1 := congrArg (fun q => q[i]?) h
  simp only [List.getElem?_take_of_lt hi, Array.getElem?_toList, List.getElem?_map, hz, Option.map_some] at h1
  exact ⟨_, by rw [Nat.mul_one, Nat.add_zero]; exact h1, by simp [Rep]⟩
 | succ j => simp [eI] at hc
theorem own_ints {F : Nat → Prop} {w w' : World} {o o' : Own} {st : List Row} {b : Nat} {l l' : List Int} {cur cur' : Array Value} (hS : StoreOK F [o] st w) (hb : o.blk = some b) (hx : o.row.xs = l.map eI) (hs1 : o.row.size = 1)
  (ht : Turns w w' (some b)) (hcur : w.heap[b]? = some (.cells cur o.row.elem (0, 0))) (hcur' : w'.heap[b]? = some (.cells cur' o.row.elem (0, 0))) (hsz : cur'.size = cur.size) (hle : l'.length ≤ l.length) (hl : cur'.toList.take l'.length = l'.map (Value.int .i64))
  (ho : o' = ⟨{ o.row with gen := o'.row.gen, xs := l'.map eI }, o.blk, o.cap, o.more⟩) : OwnOK F w' [o'] o' := by
 have h0 := hS.rows 0 o rfl
 obtain ⟨hF, c0, e1, e2, e3, e4, _⟩ := h0.some b hb
 rw [hcur] at e1
 obtain rfl : cur = c0 := by simpa using e1
 rw [hx, List.length_map] at e3
 have hflat : ∀ x ∈ o'.row.xs, ∀ c ∈ x, c.leaf = true := by
  rw [ho]
  intro x hx c hc
  obtain ⟨z, _, rfl⟩ := List.mem_map.1 hx
  simp only [eI, List.mem_singleton] at hc
  subst hc; rfl
 refine ⟨by rw [ho]; exact h0.pos, fun x hx => ⟨?_, fun c hc => AV.kept_leaf (hflat x hx c hc)⟩, fun e => ?_, fun c hc => ?_, fun c hc => ?_, DeepOK.flat hflat⟩
 ·rw [ho] at hx ⊢
  obtain ⟨z, _, rfl⟩ := List.mem_map.1 hx
  simp [eI, hs1]
 ·rw [ho] at e; simp only at e; rw [hb] at e; cases e
 ·rw [ho] at hc
  simp only at hc
  rw [hb] at hc; cases hc
  refine ⟨hF, cur', by rw [hcur', ho], by rw [hsz, e2, ho], by rw [ho]; simp; omega, by rw [ho]; exact e4, ?_⟩
  rw [ho]
  simp only [hs1]
  exact ints_cells hl
 ·rw [ho] at hc ⊢
  exact ⟨(h0.mo c hc).1, Nat.lt_of_lt_of_le (h0.mo c hc).2.1 ht.size, (h0.mo c hc).2.2⟩
variable {P : Program} {f : FuncId} {g el : Nat} {l : List Int}
theorem put_heap {w : World} {b n : Nat} {cur : Array Value} {e : TypeId} {fr : Nat × Nat} (d : Array Int) (os : Array Obj) (hb : w.heap[b]? = some (.cells cur e fr)) :
  (grow (putRow (Value.int .i64) (Sort.ahead w n) b 0 d) os).heap[b]? = some (.cells (putCells (Value.int .i64) 0 d cur) e fr) ∧ Turns w (grow (putRow (Value.int .i64) (Sort.ahead w n) b 0 d) os) (some b) := by
 refine ⟨heap_sortedI d hb, rfl, rfl, rfl, by simp, fun i hi hne => ?_⟩
 rw [heap_grow_old _ _ (by simpa using hi)]
 have : b ≠ i := fun e => hne (by rw [e])
 simp [putRow, mapBlock, Sort.ahead, Array.getElem?_modify, this]
theorem one_row {F : Nat → Prop} {os : List Own} {w : World} {row : Row} (hS : StoreOK F os [row] w) : ∃ o, os = [o] ∧ o.row = row := by
 have h := hS.st
 match os, h with
 | [o], h => exact ⟨o, rfl, by simpa using h⟩
 | [], h => simp at h
 | _ :: _ :: _, h => simp at h
theorem sort_c (hlt : l.length < 4611686018427387904) (hs : ∀ (b c : Nat) (zs : List Int) (w : World), Holds (Value.int .i64) w b 0 zs.toArray → b < w.heap.size → zs.length < 4611686018427387904 → Calls P f #[.slice (some ⟨b, 0, none⟩) zs.length c] w fun e w' => e = .returned (.tuple #[]) ∧ ∃ n os, w' = grow (putRow (Value.int .i64) (Sort.ahead w n) b 0 (zs.mergeSort fun x y => decide (x ≤ y)).toArray) os)
  (h0 : ∀ (a : Option Addr) (c : Nat) (w : World), Calls P f #[.slice a 0 c] w fun e w' => e = .returned (.tuple #[]) ∧ w' = w) :
  ACalls P f [.own 0 g l.length] [⟨g, el, 1, l.map eI⟩] fun v st => v = .tup [] ∧ st = [⟨g, el, 1, (l.mergeSort fun x y => decide (x ≤ y)).map eI⟩] := by
 intro F os w vs hS hL
 obtain ⟨o, rfl, hrow⟩ := one_row hS
 have hok := hS.rows 0 o rfl
 have hx : o.row.xs = l.map eI := by rw [hrow]
 simp only [RepL] at hL
 obtain ⟨u, _, rfl, hu, rfl⟩ := hL
 simp only [Rep] at hu
 obtain ⟨o1, ho1, _, _, hu⟩ := hu
 simp only [List.getElem?_cons_zero, Option.some.injEq] at ho1
 subst ho1
 obtain ⟨_, hu⟩ := hu (by rw [hrow])
 have hres : Rep F w [] (.tup []) (.tuple #[]) := by simp only [Rep]; exact ⟨[], rfl, by simp [RepL]⟩
 rcases hu with ⟨hb, a, rfl⟩ | ⟨b, hb, rfl⟩
 ·have hnil := (hok.none hb).1
  rw [hx] at hnil
  have hl : l = [] := by simpa using hnil
  subst hl
  refine (h0 a 0 w).mono fun e w' ⟨he, hw⟩ => ?_
  subst hw
  exact ⟨_, _, _, F, [o], he, ⟨rfl, rfl⟩, ⟨by simpa using hS.st, hS.rows, hS.inj, hS.old⟩, rep_pure _ hres, Ext.refl _ _ _ _⟩
 ·obtain ⟨hF, cur, hcur, hsz, hle, hmx, hcells⟩ := hok.some b hb
  have hsize : o.row.size = 1 := by rw [hrow]
  rw [hx] at hcells hle
  rw [hsize] at hcells hsz
  have ht := cells_ints hcells
  have hlen : l.length ≤ o.cap := by simpa using hle
  refine (hs b o.cap l w (holds_of_blockI hcur ht) (Array.getElem?_eq_some_iff.1 hcur).1 hlt).mono fun e w' ⟨he, n, os', hw⟩ => ?_
  subst hw
  obtain ⟨q1, q2⟩ := put_heap (n := n) (l.mergeSort fun x y => decide (x ≤ y)).toArray os' hcur
  have hok' := own_ints (o' := ⟨{ o.row with xs := (l.mergeSort fun x y => decide (x ≤ y)).map eI }, o.blk, o.cap, o.more⟩) hS hb hx hsize q2 hcur q1 (by simp [putCells]) (by simp)
   (take_putCellsI cur _ (by simp; rw [hsz]; omega)) rfl
  obtain ⟨r1, r2⟩ := hS.turn (o' := ⟨{ o.row with xs := (l.mergeSort fun x y => decide (x ≤ y)).map eI }, o.blk, o.cap, o.more⟩) (by rw [hb]; exact q2) rfl (Nat.le_refl _) (fun _ => by rw [hx]; simp) rfl rfl rfl hok'
  exact ⟨_, _, _, F, _, he, ⟨rfl, by rw [hrow]⟩, r1, by simp only [Rep]; exact ⟨[], rfl, by simp [RepL]⟩, r2⟩
theorem compactUpTo_le {α : Type} [Inhabited α] [DecidableEq α] (d : Array α) (m : Nat) : (Lib.compactUpTo d m).length ≤ m := by
 unfold Lib.compactUpTo
 rw [List.length_map]
 exact Nat.le_trans (List.length_filter_le _ _) (by simp)
theorem compact_c (hs : ∀ (b c : Nat) (zs : List Int) (w : World), Holds (Value.int .i64) w b 0 zs.toArray → zs.length ≤ 9223372036854775807 → zs.length ≤ c → Calls P f #[.slice (some ⟨b, 0, none⟩) zs.length c] w fun e w' => e = .returned (.slice (some ⟨b, 0, none⟩) (Lib.compact zs).length c) ∧ ∃ q, w' = putRow (Value.int .i64) (Sort.ahead w q) b 0 (Lib.compact zs ++ List.replicate (zs.length - (Lib.compact zs).length) 0).toArray)
  (h0 : ∀ (a : Option Addr) (c : Nat) (w : World), Calls P f #[.slice a 0 c] w fun e w' => e = .returned (.slice a 0 c) ∧ w' = w) :
  ACalls P f [.own 0 g l.length] [⟨g, el, 1, l.map eI⟩] fun v st => v = .own 0 (g + 1) (Lib.compact l).length ∧ st = [⟨g + 1, el, 1, (Lib.compact l).map eI⟩] := by
 intro F os w vs hS hL
 obtain ⟨o, rfl, hrow⟩ := one_row hS
 have hok := hS.rows 0 o rfl
 have hx : o.row.xs = l.map eI := by rw [hrow]
 simp only [RepL] at hL
 obtain ⟨u, _, rfl, hu, rfl⟩ := hL
 simp only [Rep] at hu
 obtain ⟨o1, ho1, _, _, hu⟩ := hu
 simp only [List.getElem?_cons_zero, Option.some.injEq] at ho1
 subst ho1
 obtain ⟨_, hu⟩ := hu (by rw [hrow])
 rcases hu with ⟨hb, a, rfl⟩ | ⟨b, hb, rfl⟩
 ·have hnil := (hok.none hb).1
  rw [hx] at hnil
  have hl : l = [] := by simpa using hnil
  subst hl
  refine (h0 a 0 w).mono fun e w' ⟨he, hw⟩ => ?_
  subst hw
  obtain ⟨r1, r2⟩ := hS.turn (o' := ⟨{ o.row with gen := o.row.gen + 1 }, o.blk, o.cap, o.more⟩) (w' := w') (Turns.refl _ _) rfl (by simp) (fun e => by simp at e) rfl rfl rfl ⟨hok.pos, hok.lens, hok.none, (fun b' hb' => by simp only at hb'; rw [hb] at hb'; cases hb'), hok.mo, hok.deep.keep rfl (fun _ h => h) rfl (fun _ _ => rfl) (fun i x j e s ys h1 h2 => ⟨x, h1, h2⟩)⟩
  refine ⟨_, _, _, F, _, he, ⟨rfl, by rw [hrow]; rfl⟩, r1, ?_, r2⟩
  simp only [Rep]
  exact ⟨_, rfl, by rw [hrow]; exact Nat.le_refl _, ⟨_, _, _, rfl⟩, fun _ => ⟨by simp [Lib.compact, Lib.compactUpTo], .inl ⟨hb, a, rfl⟩⟩⟩
 ·obtain ⟨hF, cur, hcur, hsz, hle, hmx, hcells⟩ := hok.some b hb
  have hsize : o.row.size = 1 := by rw [hrow]
  rw [hx] at hcells hle
  rw [hsize] at hcells hsz
  have ht := cells_ints hcells
  have hlen : l.length ≤ o.cap := by simpa using hle
  have hcl : (Lib.compact l).length ≤ l.length := compactUpTo_le _ _
  refine (hs b o.cap l w (holds_of_blockI hcur ht) (by simp only [maxLen] at hmx; omega) hlen).mono fun e w' ⟨he, n, hw⟩ => ?_
  rw [← grow_empty (putRow _ _ _ _ _)] at hw
  subst hw
  obtain ⟨q1, q2⟩ := put_heap (n := n) (Lib.compact l ++ List.replicate (l.length - (Lib.compact l).length) 0).toArray #[] hcur
  have htk := take_putCellsI cur (Lib.compact l ++ List.replicate (l.length - (Lib.compact l).length) 0) (by simp; omega)
  have htk2 : (putCells (Value.int .i64) 0 (Lib.compact l ++ List.replicate (l.length - (Lib.compact l).length) 0).toArray cur).toList.take (Lib.compact l).length = (Lib.compact l).map (Value.int .i64) := by
   have := congrArg (List.take (Lib.compact l).length) htk
   rw [List.take_take, Nat.min_eq_left (by simp)] at this
   rw [this, ← List.map_take, List.take_left]
  have hok' := own_ints (o' := ⟨{ o.row with gen := o.row.gen + 1, xs := (Lib.compact l).map eI }, o.blk, o.cap, o.more⟩) hS hb hx hsize q2 hcur q1 (by simp [putCells]) hcl htk2 rfl
  obtain ⟨r1, r2⟩ := hS.turn (o' := ⟨{ o.row with gen := o.row.gen + 1, xs := (Lib.compact l).map eI }, o.blk, o.cap, o.more⟩) (by rw [hb]; exact q2) rfl (by simp) (fun e => by simp at e) rfl rfl rfl hok'
  refine ⟨_, _, _, F, _, he, ⟨rfl, by rw [hrow]⟩, r1, ?_, r2⟩
  simp only [Rep]
  exact ⟨_, rfl, by rw [hrow]; exact Nat.le_refl _, ⟨_, _, _, rfl⟩, fun _ => ⟨by simp, .inr ⟨b, hb, rfl⟩⟩⟩
end Go.Abs

