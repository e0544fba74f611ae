import Derived.Test.YteoiihebkhmgoaaGEncCToSSDefs
import Derived.Sort.OwnSortedInts
import Derived.Laws.CopyRow
import Derived.Laws.IdiomCopy
import Derived.Test.YteoiihebkhmgoaaSortC

namespace RC
def cpy (l m : List Int) : List Int := m.take (min m.length l.length) ++ l.drop (min m.length l.length)
theorem cpy_len (l m : List Int) : (cpy l m).length = l.length := by unfold cpy; simp; omega
end RC
namespace Go.Abs
open Go RC
section
variable {P : Program} {k : Nat} {ops : Array Oper} {Q : Exit → St → Prop} {ds : List (Option Tmp)} {r : List Oper} {n : Nat} {e : Nat → AV} {st st' : List Row} {ty : TypeId} {p : String} {ed : Array Edge} {d : Option Tmp} {x y : Operand} {size bytes id g m : Nat} {el el' T T' : TypeId} {zz : List AV} {l l2 : List Int}
theorem ao_copyI (he : einfo P T = some ⟨el, 1, bytes, zz⟩) (hx : St.ev ⟨n, e, st⟩ x = .own id g l.length) (hr : st[id]? = some ⟨g, el', 1, l.map eI⟩) (hy : St.ev ⟨n, e, st⟩ y = .sl (l2.map eI)) (hst : st.set id ⟨g, el', 1, (cpy l l2).map eI⟩ = st')
  (hk : AO P k ops Q (ds ++ [d]) r (St.put ⟨n, e, st'⟩ d (i64 ((min l2.length l.length : Nat) : Int)))) : AO P k ops Q ds (⟨d, .call ⟨.builtin .copy, #[x, y], #[T, T']⟩, ty, p, ed, none⟩ :: r) ⟨n, e, st⟩ := by
 subst hst
 refine ao_do rfl (st' := st.set id ⟨g, el', 1, (cpy l l2).map eI⟩) (v := i64 ((min l2.length l.length : Nat) : Int)) (fun F os a w hrel => ?_) hk
 obtain ⟨inf, z, hu, hi, hz, hzs, hpos, hsz, hby, hzz, hlf⟩ := einfo_some he
 dsimp only at hu hi hzs hpos hsz hby hzz hlf
 have hs1 : (P.info? el).map (·.size) = some 1 := by rw [hi, Option.map_some, hsz]
 have h1 := hrel.ev x
 rw [hx] at h1
 simp only [Rep] at h1
 obtain ⟨o, ho, _, _, h1⟩ := h1
 obtain ⟨o', ho', hor⟩ := hrel.row hr
 rw [ho] at ho'; cases ho'
 have hok := hrel.rows id o ho
 have hxs : o.row.xs = l.map eI := by rw [hor]
 have hsize : o.row.size = 1 := by rw [hor]
 obtain ⟨_, h1⟩ := h1 (by rw [hor])
 have h2 := hrel.ev y
 rw [hy] at h2
 simp only [Rep, List.length_map] at h2
 obtain ⟨ad, cap2, e2, hcap2, hne⟩ := h2
 by_cases hn : min l2.length l.length = 0
 ·have hc0 : cpy l l2 = l := by unfold cpy; rw [hn]; simp
  have hset : st.set id ⟨g, el', 1, (cpy l l2).map eI⟩ = st := by
   obtain ⟨q1, q2⟩ := List.getElem?_eq_some_iff.1 hr
   rw [hc0, ← q2]; exact List.set_getElem_self q1
  rw [hset]
  refine ⟨.int .i64 ((min l2.length l.length : Nat) : Int), w, F, os, ?_, hrel, by simp [Rep], Ext.refl _ _ _ _⟩
  have hrun : ∀ (q : Option Addr) (c : Nat), a.eval x = .slice q l.length c → (Builtin.copy_ #[T, T'] ty #[a.eval x, a.eval y]).run P w = .ok (.int .i64 ((min l2.length l.length : Nat) : Int)) w := fun q c hq => by
   rw [hq, e2, run_copy_none w T T' ty el q ad l.length c l2.length cap2 hu hs1 hn, hn]; rfl
  rcases h1 with ⟨_, q, hq⟩ | ⟨b, _, hq⟩
  ·have := hrun _ _ hq
   simp only [execOp, resolve, invoke, builtin, Sem.run_bind, Sem.run_pure, Result.andThen_ok, List.map_toArray, List.map_cons, List.map_nil]
   rw [this]; rfl
  ·have := hrun _ _ hq
   simp only [execOp, resolve, invoke, builtin, Sem.run_bind, Sem.run_pure, Result.andThen_ok, List.map_toArray, List.map_cons, List.map_nil]
   rw [this]; rfl
 ·rcases h1 with ⟨hb, _⟩ | ⟨b, hb, hq⟩
  ·have := (hok.none hb).1
   rw [hxs] at this
   have hl : l = [] := by simpa using this
   subst hl; simp at hn
  ·obtain ⟨hF, cur, hcur, hcs, hle, hmx, hcells⟩ := hok.some b hb
   rw [hxs, hsize] at hcells
   rw [hsize] at hcs
   rw [hxs, List.length_map] at hle
   have ht := cells_ints hcells
   have h29 : l2 ≠ [] := by intro e; subst e; simp at hn
   obtain ⟨b2, o2, size2, rfl, hF2, hl2, hrr⟩ := hne (by simpa using h29)
   have hsz2 : size2 = 1 := by
    have h9 : l2 ≠ [] := by intro e; subst e; simp at hn
    obtain ⟨z0, t0, rfl⟩ := List.exists_cons_of_ne_nil h9
    have := hl2 (eI z0) (by simp)
    simpa [eI] using this.symm
   subst hsz2
   have hcellsrc : ∀ j v, ((l2.take (min l2.length l.length)).map (Value.int .i64))[j]? = some v → w.cell? ((⟨b2, o2, none⟩ : Addr).add j) = some v := fun j v hv => by
    rw [List.getElem?_map, Option.map_eq_some_iff] at hv
    obtain ⟨z0, hz0, rfl⟩ := hv
    rw [List.getElem?_take] at hz0
    split at hz0
    ·have hg := repRows_get hl2 hrr j (eI z0) (by rw [List.getElem?_map, hz0]; rfl)
     obtain ⟨u, u1, _, u2⟩ := repCells_get hg 0 _ rfl
     simp only [Rep] at u2
     rw [Addr.add_off, ← u2, ← u1, Nat.mul_one, Nat.add_zero]
    ·cases hz0
   have hlen : ((l2.take (min l2.length l.length)).map (Value.int .i64)).length = min l2.length l.length := by simp
   have hrun := run_copy_row (P := P) w T T' ty el b 0 l.length o.cap ⟨b2, o2, none⟩ l2.length cap2 cur o.row.elem ((l2.take (min l2.length l.length)).map (Value.int .i64)) hu hs1 hcur hlen hcellsrc (by rw [hlen, hcs]; omega) (fun v hv => by obtain ⟨_, _, rfl⟩ := List.mem_map.1 hv; rfl)
   rw [hlen] at hrun
   rw [List.take_zero, List.nil_append, Nat.zero_add] at hrun
   generalize hnn : min l2.length l.length = nn at *
   have hnl : nn ≤ l.length := by omega
   have hcl : cur.toList.length = o.cap := by rw [Array.length_toList, hcs, Nat.mul_one]
   have hl' : ((l2.take nn).map (Value.int .i64) ++ cur.toList.drop nn).take (cpy l l2).length = (cpy l l2).map (Value.int .i64) := by
    rw [cpy_len]
    unfold cpy
    rw [hnn, List.take_append, hlen, List.map_append, List.take_of_length_le (by rw [hlen]; exact hnl), List.map_drop, ← ht, List.drop_take]
   have ht2 := Turns.setRow w b ((l2.take nn).map (Value.int .i64) ++ cur.toList.drop nn).toArray
   have hok' : ∀ os', OwnOK F (w.setRow b ((l2.take nn).map (Value.int .i64) ++ cur.toList.drop nn).toArray) os' ⟨{ o.row with xs := (cpy l l2).map eI }, o.blk, o.cap, o.more⟩ := fun os' =>
    own_intsG hok hb hxs hsize ht2 hcur (setRow_heap w b cur _ _ _ hcur) (by simp; omega) (by rw [cpy_len]; exact Nat.le_refl _) hl' rfl
   have hT := hrel.turnRow (k := k) (o' := ⟨{ o.row with xs := (cpy l l2).map eI }, o.blk, o.cap, o.more⟩) ho (by rw [hb]; exact ht2) (Nat.le_refl _) rfl (fun _ => ⟨rfl, rfl, by rw [hxs]; simp [cpy_len]⟩) (fun _ h => .inl h) (fun _ => hok' _)
   have hrow : ({ o.row with xs := (cpy l l2).map eI } : Row) = ⟨g, el', 1, (cpy l l2).map eI⟩ := by rw [hor]
   refine ⟨.int .i64 (nn : Int), _, F, _, ?_, ?_, by simp [Rep], hT.2.1⟩
   ·simp only [execOp, resolve, invoke, builtin, Sem.run_bind, Sem.run_pure, Result.andThen_ok, List.map_toArray, List.map_cons, List.map_nil]
    rw [hq, e2, hrun]; rfl
   ·rw [← hrow]
    exact hT.1
end
end Go.Abs

