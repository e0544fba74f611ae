/- Rows made with nothing under their cells. -/
import Derived.Test.YtcpedchmkhlpnaaAbsY
namespace Go.Abs
open Go

variable {P : Program} {F : Nat → Prop} {os : List Own} {s : St} {a : Act} {w : World} {k : Nat}

theorem Rel.addRowD (hr : Rel F os s a w) {cur : Array Value} {e : TypeId} {size cap : Nat} {xs : List (List AV)} (hpos : 0 < size) (hlens : ∀ x ∈ xs, x.length = size ∧ ∀ c ∈ x, c.kept = true)
    (hsz : cur.size = cap * size) (hle : xs.length ≤ cap) (hmax : cap ≤ maxLen)
    (hcells : ∀ (i : Nat) x, xs[i]? = some x → ∀ (j : Nat) c, x[j]? = some c → ∃ u, cur[i * size + j]? = some u ∧ Rep F w os c u ∧ ∀ e s ys, c = .dv e s ys → RepD none' w c u) :
    let o : Own := ⟨⟨0, e, size, xs⟩, some w.heap.size, cap, none'⟩
    Rel F (os ++ [o]) { s with st := s.st ++ [o.row] } a (w.alloc (.cells cur e)) ∧ Ext F os w F (os ++ [o]) (w.alloc (.cells cur e)) k := by
  intro o
  have ht : Turns w (w.alloc (.cells cur e)) none := Turns.alloc _ _ _
  have hlt : ∀ (i : Nat) (oi : Own) g, os[i]? = some oi → oi.owns g → g < w.heap.size := fun i oi g hi hg => (hr.rows i oi hi).lt hg
  have hget : ∀ (i : Nat) (oi : Own), (os ++ [o])[i]? = some oi → os[i]? = some oi ∨ (i = os.length ∧ oi = o) := fun i oi hi => by
    rcases Nat.lt_trichotomy i os.length with h | h | h
    · rw [List.getElem?_append_left h] at hi; exact .inl hi
    · subst h; simp at hi; exact .inr ⟨rfl, hi.symm⟩
    · rw [List.getElem?_append_right (by omega), List.getElem?_eq_none (by simp; omega)] at hi; cases hi
  have hold : ∀ x v, Rep F w os x v → Rep F (w.alloc (.cells cur e)) (os ++ [o]) x v := fun x v h =>
    rep_mono (fun _ h => h) (fun g hg => ht.old g (hr.old g hg) (by simp)) os _ (HosLe.append os [o]) x v h
  have hown : ∀ g, o.owns g → g = w.heap.size := fun g hg => by
    simp only [Own.owns, o, none', or_false, Option.some.injEq] at hg; exact hg.symm
  have := hr.onto (k := k) ht (by simp) (os' := os ++ [o]) (HosLe.append os [o]) (fun i oi hi => by
      rcases hget i oi hi with h | ⟨_, rfl⟩
      · exact .inl ⟨h, by simp⟩
      · refine .inr ⟨hpos, hlens, by simp [o], fun g hg => ?_, fun g hg => hg.elim, ⟨fun _ _ _ => False, fun _ _ _ h => h.elim, fun _ _ _ _ _ h => h.elim, fun b hb cur' el l hcur' i x j e' s' ys hx hc => ?_⟩⟩
        · simp only [o, Option.some.injEq] at hg
          subst hg
          refine ⟨fun hF => absurd (hr.old _ hF) (Nat.lt_irrefl _), cur, heap_alloc_new w _, hsz, hle, hmax, fun i' x hx j c hc => ?_⟩
          obtain ⟨u, h1, h2, _⟩ := hcells i' x hx j c hc
          exact ⟨u, h1, hold _ _ h2⟩
        · simp only [o, Option.some.injEq] at hb
          subst hb
          rw [heap_alloc_new w _] at hcur'
          cases hcur'
          obtain ⟨u, h1, _, h3⟩ := hcells i x hx j _ hc
          exact ⟨u, h1, repD_mono (fun _ h => h.elim) (fun _ h => h.elim) _ u (h3 _ _ _ rfl)⟩)
    (fun i j oi oj g hi hj hgi hgj => by
      rcases hget i oi hi with h | ⟨h, rfl⟩ <;> rcases hget j oj hj with h' | ⟨h', rfl⟩
      · exact hr.inj i j oi oj g h h' hgi hgj
      · have := hlt i oi g h hgi; have := hown g hgj; omega
      · have := hlt j oj g h' hgj; have := hown g hgi; omega
      · omega)
    (fun o' ho' g hg => by
      rcases List.mem_append.1 ho' with h | h
      · exact .inr ⟨o', h, hg⟩
      · simp only [List.mem_singleton] at h; subst h; exact .inl (by have := hown g hg; omega))
    (by simp)
  refine ⟨?_, this.2.1⟩
  have h1 := this.1
  rw [List.map_append, hr.st] at h1
  simpa using h1

/-- The zero cells of an element, with nothing under those that are slices. -/
def ZD : List AV → List AV → Prop
  | [], [] => True
  | x :: r, y :: r' => ((x = y ∧ x.leaf = true) ∨ (x = .sl [] ∧ ∃ el s, y = .dv el s [] ∧ 0 < s)) ∧ ZD r r'
  | _, _ => False

theorem ZD.len : ∀ {xs ys : List AV}, ZD xs ys → xs.length = ys.length
  | [], [], _ => rfl
  | x :: r, y :: r', h => by simp [ZD.len h.2]
theorem ZD.get : ∀ {xs ys : List AV}, ZD xs ys → ∀ (j : Nat) y, ys[j]? = some y → ∃ x, xs[j]? = some x ∧ ((x = y ∧ x.leaf = true) ∨ (x = .sl [] ∧ ∃ el s, y = .dv el s [] ∧ 0 < s))
  | [], [], _, j, y, h => by simp at h
  | x :: r, y :: r', h, j, z, hz => by
    cases j with
    | zero => simp only [List.getElem?_cons_zero, Option.some.injEq] at hz; subst hz; exact ⟨x, rfl, h.1⟩
    | succ j => exact ZD.get h.2 j z (by simpa using hz)

theorem ofLeafZ_sl {v : Value} (h : ofLeafZ v = .sl []) : v = .slice none 0 0 := by
  unfold ofLeafZ at h
  split at h
  · rfl
  · unfold ofLeaf at h
    split at h <;> cases h

theorem aMakeD_ok {t : TypeId} {ei : EInfo} {l c : AV} {ul uc : Value} {zd : List AV} {kl kc : IntKind} {n : Int} (hr : Rel F os s a w) (he : einfo P t = some ei) (hzd : ZD ei.zero zd) (h0 : 0 ≤ n) (hb : n * (ei.bytes : Int) ≤ 281474976710656) (hm : n ≤ 9223372036854775807) (el : l = .int kl n) (ec : c = .int kc n) (hl : Rep F w os l ul) (hc : Rep F w os c uc) :
    Effects P k F os s a w (Instr.makeSlice t ul uc) (fun v st => v = .own s.st.length 0 n.toNat ∧ st = s.st ++ [⟨0, ei.e, ei.size, List.replicate n.toNat zd⟩]) := by
  obtain ⟨inf, z, hu, hi, hz, hzs, hpos, hsz, hby, hzero, hzl⟩ := einfo_some he
  subst el; subst ec
  simp only [Rep] at hl hc
  subst hl; subst hc
  obtain ⟨N, rfl⟩ := Int.eq_ofNat_of_zero_le h0
  simp only [Int.toNat_natCast]
  have hrun := run_make (P := P) w t ei.e inf z hu hi hz kl kc N N (by omega) (Int.le_refl _) (by rw [← hby, Int.mul_comm]; omega) (by omega)
  simp only [Int.toNat_natCast] at hrun
  have hzl' : zd.length = ei.size := by rw [← hzd.len, hzero, hsz, ← hzs]; simp
  have := hr.addRowD (k := k) (cur := madeCells z.cells (N * inf.size)) (e := ei.e) (size := ei.size) (cap := N) (xs := List.replicate N zd) (by omega)
    (fun x hx => by
      rw [List.mem_replicate] at hx; rw [hx.2]
      refine ⟨hzl', fun c hc => ?_⟩
      obtain ⟨j, hj⟩ := List.mem_iff_getElem?.1 hc
      obtain ⟨x, _, h⟩ := hzd.get j c hj
      rcases h with ⟨rfl, h⟩ | ⟨_, el, s, rfl, _⟩
      · exact AV.kept_leaf h
      · rfl) (by rw [size_madeCells, hsz]) (by simp) (by simp [maxLen]; omega) (fun i x hx j c hc => by
      rw [List.getElem?_replicate] at hx
      split at hx <;> simp only [Option.some.injEq, reduceCtorEq] at hx
      subst hx
      rename_i hiN
      have hjl : j < ei.size := by rw [← hzl']; exact (List.getElem?_eq_some_iff.1 hc).1
      have hj2 : j < z.cells.size := by omega
      obtain ⟨x0, hx0, hcase⟩ := hzd.get j c hc
      rw [hzero] at hx0
      simp only [List.getElem?_map, Array.getElem?_toList, Array.getElem?_eq_getElem hj2, Option.map_some, Option.some.injEq] at hx0
      refine ⟨z.cells[j], ?_, ?_⟩
      · have hlt : i * ei.size + j < N * inf.size := by
          have : (i + 1) * ei.size ≤ N * ei.size := Nat.mul_le_mul_right _ hiN
          rw [Nat.add_mul] at this; rw [← hsz]; omega
        have hmod : (i * ei.size + j) % z.cells.size = j := by rw [hzs, ← hsz, Nat.mul_comm, Nat.mul_add_mod]; exact Nat.mod_eq_of_lt hjl
        simp [madeCells, hlt, hmod, hj2]
      · rcases hcase with ⟨rfl, hlf⟩ | ⟨rfl, el, s, rfl, hs⟩
        · rw [← hx0]
          refine ⟨rep_ofLeafZ F w os _, fun e s ys e' => ?_⟩
          rw [hx0] at e'; rw [e'] at hlf; simp [AV.leaf] at hlf
        · have := ofLeafZ_sl hx0
          rw [this]
          refine ⟨by simp only [Rep]; exact ⟨_, _, _, rfl⟩, fun e s' ys e' => ?_⟩
          simp only [RepD]
          exact ⟨hs, .inl ⟨trivial, none, rfl⟩⟩)
  refine ⟨_, _, _, _, _, ⟨rfl, rfl⟩, hrun, this.1, ?_, this.2⟩
  simp only [Rep]
  refine ⟨⟨⟨0, ei.e, ei.size, List.replicate N zd⟩, some w.heap.size, N, none'⟩, by rw [hr.len]; simp, by simp, ⟨_, _, _, rfl⟩, fun _ => ⟨by simp, .inr ⟨_, rfl, rfl⟩⟩⟩

theorem AO.sem {ops : Array Oper} {Q : Exit → St → Prop} {ds : List (Option Tmp)} {r : List Oper} {o : Oper} {s s' : St} (hgd : o.guard = none)
    (h : ∀ F os a w, Rel F os s a w → dstOK s.n o.dst = true → ∀ (next : Act → World → Prop) (Q' : Exit → Act → World → Prop), (∀ a' w', Step k s.n F os w (· = s') a' w' → next a' w') → o.wp P a w next Q')
    (hk : AO P k ops Q (ds ++ [o.dst]) r s') : AO P k ops Q ds (o :: r) s := by
  intro hl hds hdst F os a w hr Q' hQ
  have ho : ops[ds.length]? = some o := by have := hl 0; simpa using this.symm
  have hod : dstOK s.n o.dst = true := hdst o (by have := List.mem_of_getElem? (l := ops.toList) (i := ds.length) (by simpa using ho); exact this)
  have hl' : ∀ (j : Nat), r[j]? = ops[(ds ++ [o.dst]).length + j]? := fun j => by
    have := hl (j + 1)
    simp only [List.getElem?_cons_succ] at this
    rw [this]; congr 1; simp; omega
  have hds' : ∀ (j : Nat) d, (ds ++ [o.dst])[j]? = some d → (ops[j]?).map (·.dst) = some d := fun j d hj => by
    rcases Nat.lt_trichotomy j ds.length with h1 | h1 | h1
    · rw [List.getElem?_append_left h1] at hj; exact hds j d hj
    · subst h1; rw [new_get, Option.some.injEq] at hj; rw [ho]; simp [hj]
    · rw [List.getElem?_eq_none (by simp; omega)] at hj; cases hj
  unfold wpList
  have hw : Region.wanted o (yielded ops a.tmps) = true := by unfold Region.wanted; rw [hgd]
  rw [if_pos hw]
  refine .inl (h F os a w hr hod _ _ ?_)
  rintro a' w' ⟨s2, F2, os2, hn2, rfl, hR2, hE2⟩
  exact hk hl' hds' (by rw [hn2]; exact hdst) F2 os2 a' w' hR2 Q' fun _ _ _ hp => hQ _ _ _ (hp.trans hE2)

section
variable {α : Type} {l : List α} {enc : α → List AV}
variable {ops : Array Oper} {Q : Exit → St → Prop} {ds : List (Option Tmp)} {r : List Oper} {n : Nat} {e : Nat → AV} {st st' : List Row} {ty : TypeId} {ps : String} {ed : Array Edge} {t : Tmp} {T : TypeId} {x y : Operand} {m bytes size : Nat} {el : TypeId} {zz : List AV} {u : α} {j : Int} {kk kk' : IntKind}
theorem ao_maked (he : einfo P T = some ⟨el, size, bytes, zz⟩) (hx : St.ev ⟨n, e, st⟩ x = .int kk j) (hy : St.ev ⟨n, e, st⟩ y = .int kk' j) (hz : ZD zz (enc u)) (hl : Sh.mk u j bytes = some l) (hm : st.length = m) (hst : st ++ [⟨0, el, size, l.map enc⟩] = st')
    (hk : AO P k ops Q (ds ++ [some t]) r ⟨n, upd e t (.own m 0 l.length), st'⟩) : AO P k ops Q ds (⟨some t, .makeSlice T x y, ty, ps, ed, none⟩ :: r) ⟨n, e, st⟩ := by
  subst hm; subst hst
  unfold Sh.mk at hl
  split at hl
  case isFalse => cases hl
  rename_i h
  simp only [Option.some.injEq] at hl
  subst hl
  refine AO.sem rfl (fun F os a w hr hd next Q' hn => ?_) hk
  obtain ⟨v, st', u', w', os', ⟨rfl, rfl⟩, h2, h3, h4, h5⟩ := aMakeD_ok (k := k) (ei := ⟨el, size, bytes, zz⟩) hr he hz h.1 h.2.1 h.2.2 hx hy (hr.ev x) (hr.ev y)
  unfold Oper.wp
  simp only [execOp, Sem.run_bind, h2, Result.andThen_ok, Sem.run_pure, Oper.upon]
  refine hn _ _ (putStep hd ?_ h3 h4 h5)
  simp [St.put, List.map_replicate]
end
end Go.Abs
