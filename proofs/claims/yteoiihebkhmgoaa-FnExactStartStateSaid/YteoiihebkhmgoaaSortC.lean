import Derived.Test.YteoiihebkhmgoaaGEncCToSSDefs
import Derived.Sort.OwnSortedInts

namespace Go.Abs
open Go Go.Sort RC
theorem cells_ints {F : Nat → Prop} {w : World} {os : List Own} {cur : Array Value} {l : List Int} (h : ∀ (i : Nat) x, (l.map eI)[i]? = some x → ∀ (j : Nat) c, x[j]? = some c → ∃ u, cur[i * 1 + j]? = some u ∧ Rep F w os c u) : cur.toList.take l.length = l.map (Value.int .i64) := by
 apply List.ext_getElem?
 intro j
 by_cases hj : j < l.length
 ·rw [List.getElem?_take_of_lt hj, Array.getElem?_toList, List.getElem?_map, List.getElem?_eq_getElem hj]
  obtain ⟨u, h1, h2⟩ := h j (eI l[j]) (by rw [List.getElem?_map, List.getElem?_eq_getElem hj]; rfl) 0 _ rfl
  rw [Nat.mul_one, Nat.add_zero] at h1
  simp only [Rep] at h2
  rw [h1, h2]; rfl
 ·rw [List.getElem?_take_eq_none (by omega), List.getElem?_eq_none (by simp; omega)]
theorem ints_cells {F : Nat → Prop} {w : World} {os : List Own} {cur : Array Value} {l : List Int} (h : cur.toList.take l.length = l.map (Value.int .i64)) : ∀ (i : Nat) x, (l.map eI)[i]? = some x → ∀ (j : Nat) c, x[j]? = some c → ∃ u, cur[i * 1 + j]? = some u ∧ Rep F w os c u := by
 intro i x hx j c hc
 rw [List.getElem?_map, Option.map_eq_some_iff] at hx
 obtain ⟨z, hz, rfl⟩ := hx
 have hi := (List.getElem?_eq_some_iff.1 hz).1
 cases j with
 | zero =>
  have : c = i64 z := by simpa [eI] using hc.symm
  subst this
  have h1 := congrArg (fun q => q[i]?) h
  simp only [List.getElem?_take_of_lt hi, Array.getElem?_toList, List.getElem?_map, hz, Option.map_some] at h1
  exact ⟨_, by rw [Nat.mul_one, Nat.add_zero]; exact h1, by simp [Rep]⟩
 | succ j => simp [eI] at hc
theorem own_intsG {F : Nat → Prop} {w w' : World} {o o' : Own} {os os' : List Own} {b : Nat} {l l' : List Int} {cur cur' : Array Value} (h0 : OwnOK F w os o) (hb : o.blk = some b) (hx : o.row.xs = l.map eI) (hs1 : o.row.size = 1)
  (ht : Turns w w' (some b)) (hcur : w.heap[b]? = some (.cells cur o.row.elem (0, 0))) (hcur' : w'.heap[b]? = some (.cells cur' o.row.elem (0, 0))) (hsz : cur'.size = cur.size) (hle : l'.length ≤ l.length) (hl : cur'.toList.take l'.length = l'.map (Value.int .i64))
  (ho : o' = ⟨{ o.row with gen := o'.row.gen, xs := l'.map eI }, o.blk, o.cap, o.more⟩) : OwnOK F w' os' o' := by
 obtain ⟨hF, c0, e1, e2, e3, e4, _⟩ := h0.some b hb
 rw [hcur] at e1
 obtain rfl : cur = c0 := by simpa using e1
 rw [hx, List.length_map] at e3
 have hflat : ∀ x ∈ o'.row.xs, ∀ c ∈ x, c.leaf = true := by
  rw [ho]
  intro x hx c hc
  obtain ⟨z, _, rfl⟩ := List.mem_map.1 hx
  simp only [eI, List.mem_singleton] at hc
  subst hc; rfl
 refine ⟨by rw [ho]; exact h0.pos, fun x hx => ⟨?_, fun c hc => AV.kept_leaf (hflat x hx c hc)⟩, fun e => ?_, fun c hc => ?_, fun c hc => ?_, DeepOK.flat hflat⟩
 ·rw [ho] at hx ⊢
  obtain ⟨z, _, rfl⟩ := List.mem_map.1 hx
  simp [eI, hs1]
 ·rw [ho] at e; simp only at e; rw [hb] at e; cases e
 ·rw [ho] at hc
  simp only at hc
  rw [hb] at hc; cases hc
  refine ⟨hF, cur', by rw [hcur', ho], by rw [hsz, e2, ho], by rw [ho]; simp; omega, by rw [ho]; exact e4, ?_⟩
  rw [ho]
  simp only [hs1]
  exact ints_cells hl
 ·rw [ho] at hc ⊢
  exact ⟨(h0.mo c hc).1, Nat.lt_of_lt_of_le (h0.mo c hc).2.1 ht.size, (h0.mo c hc).2.2⟩
variable {P : Program} {f : FuncId} {g el : Nat} {l : List Int}
end Go.Abs

