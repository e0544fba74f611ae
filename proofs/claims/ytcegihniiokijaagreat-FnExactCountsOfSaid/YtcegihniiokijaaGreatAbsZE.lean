import Derived.Test.YtcegihniiokijaaGreatAbsZD
import Derived.Lib.AppendZerosOnto

namespace Go.Abs
open Go
section
variable {P : Program} {k : Nat} {ops : Array Oper} {Q : Exit → St → Prop} {ds : List (Option Tmp)} {r : List Oper} {n : Nat} {e : Nat → AV} {st st' : List Row} {ty : TypeId} {p : String} {ed : Array Edge} {t : Tmp} {x y : Operand} {size bytes m : Nat} {el T Tn : TypeId} {zz : List AV} {α : Type} {enc : α → List AV} {u : α} {l' : List α} {kk : IntKind} {j : Int} {v : AV} {o : Oper}
theorem ao_do (hn : o.guard = none) (h : ∀ F os a w, Rel F os ⟨n, e, st⟩ a w → ∃ z w' F' os', (execOp a.eval o).run P w = .ok (.value z) w' ∧ Rel F' os' ⟨n, e, st'⟩ a w' ∧ Rep F' w' os' v z ∧ Ext F os w F' os' w' k)
  (hk : AO P k ops Q (ds ++ [o.dst]) r (St.put ⟨n, e, st'⟩ o.dst v)) : AO P k ops Q ds (o :: r) ⟨n, e, st⟩ := by
 intro hl hds hdst F os a w hr Q' hQ
 have ho : ops[ds.length]? = some o := by have := hl 0; simpa using this.symm
 have hod : dstOK n o.dst = true := hdst o (by have := List.mem_of_getElem? (l := ops.toList) (i := ds.length) (by simpa using ho); exact this)
 have hl' : ∀ (j : Nat), r[j]? = ops[(ds ++ [o.dst]).length + j]? := fun j => by
  have := hl (j + 1)
  simp only [List.getElem?_cons_succ] at this
  rw [this]; congr 1; simp; omega
 have hds' : ∀ (j : Nat) d, (ds ++ [o.dst])[j]? = some d → (ops[j]?).map (·.dst) = some d := fun j d hj => by
  rcases Nat.lt_trichotomy j ds.length with h1 | h1 | h1
  ·rw [List.getElem?_append_left h1] at hj; exact hds j d hj
  ·subst h1; rw [new_get, Option.some.injEq] at hj; rw [ho]; simp [hj]
  ·rw [List.getElem?_eq_none (by simp; omega)] at hj; cases hj
 obtain ⟨z, w', F', os', h1, h2, h3, h4⟩ := h F os a w hr
 unfold wpList
 rw [if_pos (by unfold Region.wanted; rw [hn])]
 refine .inl ?_
 unfold Oper.wp
 rw [h1]
 simp only [Oper.upon]
 refine hk hl' hds' (by cases o.dst <;> exact hdst) F' os' _ w' (h2.put hod h3) Q' fun _ _ _ hp => hQ _ _ _ (hp.trans h4)
theorem ao_capz (hs : isSliceT P T = true) (hx : St.ev ⟨n, e, st⟩ x = .zc) (hk : AO P k ops Q (ds ++ [some t]) r ⟨n, upd e t (i64 0), st⟩) :
  AO P k ops Q ds (⟨some t, .call ⟨.builtin .cap, #[x], #[T]⟩, ty, p, ed, none⟩ :: r) ⟨n, e, st⟩ := by
 refine ao_do rfl (st' := st) (v := i64 0) (fun F os a w hr => ?_) hk
 have h1 := hr.ev x
 rw [hx] at h1
 simp only [Rep] at h1
 obtain ⟨ad, h1⟩ := h1
 unfold isSliceT at hs
 split at hs
 case h_2 => cases hs
 rename_i el hu
 refine ⟨.int .i64 0, w, F, os, ?_, hr, by simp [Rep], Ext.refl _ _ _ _⟩
 simp only [execOp, resolve, invoke, builtin, Sem.run_bind, Sem.run_pure, Result.andThen_ok, List.map_toArray, List.map_cons, List.map_nil, h1, Builtin.cap_]
 simp [run_underlying hu, goInt]
theorem ao_slz {hi : Option Operand} (he : einfo P T = some ⟨el, size, bytes, zz⟩) (hx : St.ev ⟨n, e, st⟩ x = .zc) (h2 : bnd (hi.map (St.ev ⟨n, e, st⟩)) 0 = some 0)
  (hk : AO P k ops Q (ds ++ [some t]) r ⟨n, upd e t .zc, st⟩) : AO P k ops Q ds (⟨some t, .slice T x none hi none, ty, p, ed, none⟩ :: r) ⟨n, e, st⟩ := by
 refine ao_a go0 ?_
 rw [st_slice]
 simp only [Option.map_none]
 rw [hx]
 exact optK_intro _ he (optK_intro _ rfl (optK_intro _ h2 ⟨rfl, rfl, hk⟩))
theorem ao_apmk {kn : IntKind} (he : einfo P T = some ⟨el, size, bytes, zz⟩) (hn : P.underlying Tn = some (.int kn)) (hx : St.ev ⟨n, e, st⟩ x = .zc) (hy : St.ev ⟨n, e, st⟩ y = .int kk j) (h0 : decide (0 < j) = true) (hz : enc u = zz) (hj : Sh.mk u j bytes = some l') (hm : st.length = m) (hst : st ++ [⟨0, el, size, l'.map enc⟩] = st')
  (hk : AO P k ops Q (ds ++ [some t]) r ⟨n, upd e t (.own m 0 l'.length), st'⟩) : AO P k ops Q ds (⟨some t, .call ⟨.builtin .append, #[x, y], #[T, Tn]⟩, ty, p, ed, none⟩ :: r) ⟨n, e, st⟩ := by
 subst hm; subst hst; subst hz
 unfold Sh.mk at hj
 split at hj
 case isFalse => cases hj
 rename_i hbd
 simp only [Option.some.injEq] at hj
 subst hj
 refine ao_do rfl (st' := st ++ [(⟨0, el, size, (List.replicate j.toNat u).map enc⟩ : Row)]) (v := .own st.length 0 (List.replicate j.toNat u).length) (fun F os a w hr => ?_) hk
 have h1 := hr.ev x
 rw [hx] at h1
 simp only [Rep] at h1
 obtain ⟨ad, h1⟩ := h1
 have h2 := hr.ev y
 rw [hy] at h2
 simp only [Rep] at h2
 obtain ⟨inf, z, hu, hi, hz, hzs, hpos, hsz, hby, hzz, hlf⟩ := einfo_some he
 dsimp only at hu hi hzs hpos hsz hby hzz hlf
 have hj0 : 0 < j := of_decide_eq_true h0
 obtain ⟨q, rfl⟩ := Int.eq_ofNat_of_zero_le (Int.le_of_lt hj0)
 rw [Int.toNat_natCast]
 have hq0 : 0 < q := by omega
 have hq48 : q * inf.bytes ≤ 281474976710656 := by
  have h9 : ((q * bytes : Nat) : Int) ≤ 281474976710656 := by rw [Int.natCast_mul]; exact hbd.2.1
  rw [← hby]; omega
 have hold : (Builtin.firstCells inf.size 0 (.slice ad 0 0)).run P w.drew = .ok ([] : List Value).toArray w.drew := by
  cases ad with
  | none => exact run_firstCells_none w.drew inf.size 0 0 0
  | some ad => exact run_firstCells_some w.drew inf.size 0 ad 0 0 [] (by simp) (by simp)
 have hfit : Builtin.nextslicecap (0 + q) 0 * inf.bytes ≤ 281474976710656 := by rw [Nat.zero_add, nextslicecap_zero hq0]; exact hq48
 have hrun := Lib.run_append_grow_zeros (P := P) w T Tn ty el inf z kk kn hu hn hi hz ad 0 0 [] hold q hq0 (by omega) (by omega) (by omega) hq48 hfit
 rw [Nat.zero_add] at hrun
 have hge := grownCap_ge w q 0 el
 have hle := grownCap_le_maxLen w q 0 el (by unfold maxLen; omega)
 have hzc : ∀ i, i < z.cells.size → ∃ c', z.cells[i]? = some c' := fun i hi => ⟨_, Array.getElem?_eq_getElem hi⟩
 have hadd := hr.addRow (k := k) (.inr rfl) (cur := ([] : List Value).toArray ++ Builtin.zeroCells z.cells q ++ Builtin.zeroCells z.cells (grownCap w q 0 el - q)) (e := el) (size := size) (cap := grownCap w q 0 el) (xs := (List.replicate q u).map enc)
  (by omega) (fun x hx => by
   rw [List.map_replicate] at hx
   rw [List.eq_of_mem_replicate hx, hzz]
   refine ⟨by simp [hzs, hsz], fun c hc => hlf c (by rw [hzz]; exact hc)⟩)
  (by
   simp only [Array.size_append, List.size_toArray, List.length_nil, size_zeroCells, hzs, hsz, Nat.zero_add, ← Nat.add_mul]
   congr 1; omega)
  (by rw [List.length_map, List.length_replicate]; omega) hle (fun i x hx jj c hc => by
   rw [List.map_replicate] at hx
   have hi : i < q := by
    have := (List.getElem?_eq_some_iff.1 hx).1
    simpa using this
   have hx' : x = enc u := List.eq_of_mem_replicate (List.mem_of_getElem? hx)
   subst hx'
   rw [hzz] at hc
   simp only [List.getElem?_map, Option.map_eq_some_iff, Array.getElem?_toList] at hc
   obtain ⟨c', hc1, rfl⟩ := hc
   have hjl : jj < z.cells.size := (Array.getElem?_eq_some_iff.1 hc1).1
   refine ⟨c', ?_, rep_ofLeafZ F w os c'⟩
   have hlt : i * size + jj < q * size := by
    have : (i + 1) * size ≤ q * size := Nat.mul_le_mul_right _ hi
    rw [Nat.add_mul] at this
    omega
   rw [Array.append_assoc, show (([] : List Value).toArray ++ (Builtin.zeroCells z.cells q ++ Builtin.zeroCells z.cells (grownCap w q 0 el - q))) = (Builtin.zeroCells z.cells q ++ Builtin.zeroCells z.cells (grownCap w q 0 el - q)) by simp]
   rw [Array.getElem?_append_left (by rw [size_zeroCells, hzs, ← hsz]; exact hlt)]
   unfold Builtin.zeroCells
   rw [Array.getElem?_map, Array.getElem?_range]
   rw [if_pos (by rw [hzs, ← hsz]; exact hlt)]
   simp only [Option.map_some, Option.some.injEq]
   have hmod : (i * size + jj) % z.cells.size = jj := by
    rw [hzs, ← hsz, Nat.mul_comm, Nat.mul_add_mod]
    exact Nat.mod_eq_of_lt (by omega)
   rw [hmod]
   simp [Array.getElem!_eq_getD, Array.getD, hjl, (Array.getElem?_eq_some_iff.1 hc1).2])
 refine ⟨.slice (some ⟨w.heap.size, 0, none⟩) q (grownCap w q 0 el), _, F, _, ?_, hadd.1, ?_, hadd.2.1⟩
 ·simp only [execOp, resolve, invoke, builtin, Sem.run_bind, Sem.run_pure, Result.andThen_ok, List.map_toArray, List.map_cons, List.map_nil, h1, h2]
  rw [hrun]
  simp
 ·simp only [Rep]
  have hlen : st.length = os.length := hr.len
  exact ⟨_, by rw [hlen]; exact new_get _ _, Nat.le_refl _, ⟨_, _, _, rfl⟩, fun _ => ⟨by simp, .inr ⟨_, rfl, by simp⟩⟩⟩
end
section
variable {P : Program} {ds : List (Option Tmp)} {r : List Oper} {KS : St → Prop} {n : Nat} {e : Nat → AV} {st : List Row} {ty : TypeId} {ps : String} {ed : Array Edge} {t : Tmp} {gd : Option (Nat × Bool)} {α : Type} {l : List α} {enc : α → List AV} {u : α} {x y : Operand} {size bytes : Nat} {el T : TypeId} {zz : List AV} {kk kk' : IntKind} {j : Int}
theorem d_mk (hg : GO ds gd e) (he : einfo P T = some ⟨el, size, bytes, zz⟩) (hx : St.ev ⟨n, e, st⟩ x = .int kk j) (hy : St.ev ⟨n, e, st⟩ y = .int kk' j) (hz : enc u = zz) (hl : Sh.mk u j bytes = some l) (hpu : pureRow (l.map enc))
  (hk : dops P (ds ++ [some t]) r KS ⟨n, upd e t (.sl (l.map enc)), st⟩) : dops P ds (⟨some t, .makeSlice T x y, ty, ps, ed, gd⟩ :: r) KS ⟨n, e, st⟩ := by
 subst hz
 refine d_l hg rfl (fun s0 e1 e2 hd k F os a w hr next Q hn => ?_) hk
 have ex : s0.ev x = .int kk j := (e2 x (by simp [Op.operands])).trans hx
 have ey : s0.ev y = .int kk' j := (e2 y (by simp [Op.operands])).trans hy
 have hxr := hr.ev x
 have hyr := hr.ev y
 rw [ex] at hxr
 rw [ey] at hyr
 unfold Sh.mk at hl
 split at hl
 case isFalse => cases hl
 rename_i h
 simp only [Option.some.injEq] at hl
 subst hl
 have h9 : Effects P 0 F [] ⟨s0.n, fun _ => .junk, []⟩ a w (Instr.makeSlice T (a.eval x) (a.eval y)) (fun z st => z = .own 0 0 (List.replicate j.toNat u).length ∧ st = [⟨0, el, size, (List.replicate j.toNat u).map enc⟩]) := by
  refine aMake_ok (l := .int kk j) (c := .int kk' j) hr.bare (optK_intro _ he ⟨rfl, h.1, h.2.1, h.2.2, ?_⟩) (rep_simple (x := .int kk j) rfl [] hxr) (rep_simple (x := .int kk' j) rfl [] hyr)
  simp
 obtain ⟨u', w', F', g1, g2, g3, g4⟩ := Effects.quiet (k := k) hr h9 (Wk.row0 hpu) rfl
 unfold Oper.wp
 simp only [execOp, Sem.run_bind, g1, Result.andThen_ok, Sem.run_pure, Oper.upon]
 exact hn _ _ (putStep (st' := s0.st) hd rfl g2 g3 g4)
end
section
variable {P : Program} {k : Nat} {ops : Array Oper} {Q : Exit → St → Prop} {ds : List (Option Tmp)} {r : List Oper} {n : Nat} {e : Nat → AV} {st st' : List Row} {ty : TypeId} {p : String} {ed : Array Edge} {t : Tmp} {x y : Operand} {size bytes m : Nat} {el T : TypeId} {zz : List AV} {kk kk' : IntKind} {c : Nat}
theorem ao_make0v {α : Type} {u : α} {l' : List α} {j : Int} (he : einfo P T = some ⟨el, size, bytes, zz⟩) (hx : St.ev ⟨n, e, st⟩ x = .int kk 0) (hy : St.ev ⟨n, e, st⟩ y = .int kk' j) (hj : Sh.mk u j bytes = some l') (hm : st.length = m) (hst : st ++ [⟨0, el, size, []⟩] = st')
  (hk : AO P k ops Q (ds ++ [some t]) r ⟨n, upd e t (.own m 0 0), st'⟩) : AO P k ops Q ds (⟨some t, .makeSlice T x y, ty, p, ed, none⟩ :: r) ⟨n, e, st⟩ := by
 subst hm; subst hst
 unfold Sh.mk at hj
 split at hj
 case isFalse => cases hj
 rename_i hb0
 obtain ⟨c, rfl⟩ := Int.eq_ofNat_of_zero_le hb0.1
 have hbd : c * bytes ≤ 281474976710656 ∧ c ≤ 9223372036854775807 := by
  have h9 : ((c * bytes : Nat) : Int) ≤ 281474976710656 := by rw [Int.natCast_mul]; exact hb0.2.1
  have h8 := hb0.2.2
  omega
 refine ao_do rfl (st' := st ++ [(⟨0, el, size, []⟩ : Row)]) (v := .own st.length 0 0) (fun F os a w hr => ?_) hk
 have h1 := hr.ev x
 rw [hx] at h1
 simp only [Rep] at h1
 have h2 := hr.ev y
 rw [hy] at h2
 simp only [Rep] at h2
 obtain ⟨inf, z, hu, hi, hz, hzs, hpos, hsz, hby, hzz, hlf⟩ := einfo_some he
 dsimp only at hu hi hzs hpos hsz hby hzz hlf
 have hrun := run_make (P := P) w T el inf z hu hi hz kk kk' 0 (c : Int) (by omega) (by omega) (by rw [← hby, ← Int.natCast_mul, Nat.mul_comm]; omega) (by omega)
 have hadd := hr.addRow (k := k) (.inl rfl) (cur := madeCells z.cells (c * inf.size)) (e := el) (size := size) (cap := c) (xs := []) (by omega) (by simp) (by rw [size_madeCells, hsz]) (by simp) (by simp [maxLen]; omega) (by simp)
 refine ⟨.slice (some ⟨w.heap.size, 0, none⟩) 0 c, _, F, _, ?_, hadd.1, ?_, hadd.2.1⟩
 ·simp only [execOp, Sem.run_bind, Sem.run_pure, Result.andThen_ok, h1, h2]
  rw [hrun]
  simp
 ·simp only [Rep]
  have hlen : st.length = os.length := hr.len
  exact ⟨_, by rw [hlen]; exact new_get _ _, Nat.le_refl _, ⟨_, _, _, rfl⟩, fun _ => ⟨by simp, .inr ⟨_, rfl, by simp⟩⟩⟩
end
end Go.Abs

