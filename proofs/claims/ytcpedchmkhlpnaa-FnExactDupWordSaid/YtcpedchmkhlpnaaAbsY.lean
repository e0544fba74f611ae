/- Slices that lie under the cells of a row: let out, made, read. -/
import Derived.Test.YtcpedchmkhlpnaaAbsX
namespace Go.Abs
open Go

variable {P : Program} {F : Nat → Prop} {os : List Own} {s : St} {a : Act} {w : World} {k : Nat}

theorem own_of_repD {S : Nat → Prop} {el sz : Nat} {ys : List (List AV)} {u : Value} (hS : ∀ b, S b → ¬ F b ∧ b < w.heap.size) (h : RepD S w (.dv el sz ys) u) :
    ∃ p : Own, p.row = ⟨0, el, sz, ys⟩ ∧ (∀ b, p.owns b → S b) ∧ (∀ os, OwnOK F w os p) ∧ ((p.blk = none ∧ ∃ a, u = .slice a ys.length 0) ∨ ∃ b, p.blk = some b ∧ u = .slice (some ⟨b, 0, none⟩) ys.length p.cap) := by
  simp only [RepD] at h
  obtain ⟨hp, h⟩ := h
  rcases h with ⟨rfl, a, rfl⟩ | ⟨b, cap, cur, rfl, h2, h3, h4, h5, h6, h7, h8⟩
  · refine ⟨⟨⟨0, el, sz, []⟩, none, 0, none'⟩, rfl, fun b hb => ?_, fun os => ⟨hp, by simp, by simp, by simp, fun b hb => hb.elim, DeepOK.flat (by simp)⟩, .inl ⟨rfl, a, rfl⟩⟩
    rcases hb with hb | hb
    · cases hb
    · exact hb.elim
  · obtain ⟨D, d1, d2, d3⟩ := repDR_get h7 h8
    refine ⟨⟨⟨0, el, sz, ys⟩, some b, cap, fun c => S c ∧ c ≠ b⟩, rfl, fun c hc => ?_, fun os => ⟨hp, fun x hx => ⟨h7 x hx, fun c hc => ?_⟩, by simp, fun b' hb' => ?_, fun c hc => ⟨(hS c hc.1).1, (hS c hc.1).2, fun e => hc.2 (by simpa using e.symm)⟩, ⟨D, d1, d2, fun b' hb' cur' el2 l hcur' i x j e s zs hx hc => ?_⟩⟩, .inr ⟨b, rfl, rfl⟩⟩
    · rcases hc with hc | hc
      · cases hc; exact h4
      · exact hc.1
    · obtain ⟨i, hi⟩ := List.mem_iff_getElem?.1 hx
      obtain ⟨j, hj⟩ := List.mem_iff_getElem?.1 hc
      obtain ⟨u, _, g2⟩ := d3 i x hi j c hj
      exact (rep_of_repD (F := F) (os := os) g2).2.1
    · simp only [Option.some.injEq] at hb'
      subst hb'
      refine ⟨(hS _ h4).1, cur, h5, h6, h2, h3, fun i x hx j c hc => ?_⟩
      obtain ⟨u, g1, g2⟩ := d3 i x hx j c hc
      exact ⟨u, by simpa using g1, (rep_of_repD g2).1⟩
    · simp only [Option.some.injEq] at hb'
      subst hb'
      rw [h5] at hcur'; cases hcur'
      obtain ⟨u, g1, g2⟩ := d3 i x hx j _ hc
      exact ⟨u, by simpa using g1, g2⟩

/-- What lies under a cell becomes a row of its own. -/
theorem Wk.expelD {id m g size sz n i j nn : Nat} {el el' : TypeId} {xs ys : List (List AV)} {x : List AV} {e : Nat → AV} {st st' : List Row} (hrow : st[id]? = some ⟨g, el, size, xs⟩) (hx : xs[i]? = some x) (hc : x[j]? = some (.dv el' sz ys))
    (hm : st.length = m) (hn : n = ys.length) (hst : st.set id ⟨g, el, size, xs.set i (x.set j (.own m 0 n))⟩ ++ [⟨0, el', sz, ys⟩] = st') : Wk k ⟨nn, e, st⟩ ⟨nn, e, st'⟩ := fun F os a w hr => by
  subst hst; subst hn; subst hm
  obtain ⟨o, ho, hor⟩ := hr.row hrow
  have hok := hr.rows id o ho
  have hst : os.map Own.row = st := hr.st
  have hol : os.length = st.length := by rw [← hst]; simp
  have hxs : o.row.xs = xs := by rw [hor]
  have hil : i < xs.length := (List.getElem?_eq_some_iff.1 hx).1
  have hjl : j < x.length := (List.getElem?_eq_some_iff.1 hc).1
  have hidl := (List.getElem?_eq_some_iff.1 ho).1
  obtain ⟨bo, hbo⟩ : ∃ b, o.blk = some b := by
    cases hb : o.blk with
    | none => have := (hok.none hb).1; rw [hxs] at this; rw [this] at hil; simp at hil
    | some b => exact ⟨b, rfl⟩
  obtain ⟨hnF, cur, hcur, hsz, hle, hmax, hcells⟩ := hok.some bo hbo
  obtain ⟨D, d1, d2, d3⟩ := hok.deep
  obtain ⟨uv, hu1, hu2⟩ := d3 bo hbo cur _ _ hcur i x j el' sz ys (by rw [hxs]; exact hx) hc
  obtain ⟨p, hpr, hpo, hpk, hpv⟩ := own_of_repD (F := F) (fun b hb => ⟨(hok.mo b (d1 _ _ _ hb)).1, (hok.mo b (d1 _ _ _ hb)).2.1⟩) hu2
  let o' : Own := { o with row := { o.row with xs := xs.set i (x.set j (.own st.length 0 ys.length)) }, more := fun b => o.more b ∧ ¬ D i j b }
  have hget : ∀ (q : Nat) (oq : Own), (os.set id o' ++ [p])[q]? = some oq → (q ≠ id ∧ q < os.length ∧ os[q]? = some oq) ∨ (q = id ∧ oq = o') ∨ (q = os.length ∧ oq = p) := fun q oq hq => by
    rcases Nat.lt_trichotomy q os.length with h | h | h
    · rw [List.getElem?_append_left (by simpa using h)] at hq
      by_cases e2 : q = id
      · subst e2
        rw [List.getElem?_set_self hidl, Option.some.injEq] at hq
        exact .inr (.inl ⟨rfl, hq.symm⟩)
      · rw [List.getElem?_set_ne (Ne.symm e2)] at hq
        exact .inl ⟨e2, h, hq⟩
    · subst h
      rw [List.getElem?_append_right (by simp)] at hq
      simp at hq
      exact .inr (.inr ⟨rfl, hq.symm⟩)
    · rw [List.getElem?_eq_none (by simp; omega)] at hq; cases hq
  have hpget : (os.set id o' ++ [p])[st.length]? = some p := by
    rw [List.getElem?_append_right (by simp; omega)]
    simp [hol]
  have hos : HosLe os (os.set id o' ++ [p]) := fun q oq hq => by
    have hql := (List.getElem?_eq_some_iff.1 hq).1
    rw [List.getElem?_append_left (by simpa using hql)]
    by_cases e2 : q = id
    · subst e2
      rw [ho] at hq; cases hq
      exact ⟨o', List.getElem?_set_self hidl, Nat.le_refl _, rfl, fun _ => ⟨rfl, rfl, by simp [o', hxs]⟩⟩
    · rw [List.getElem?_set_ne (Ne.symm e2)]
      exact ⟨oq, hq, Nat.le_refl _, rfl, fun _ => ⟨rfl, rfl, rfl⟩⟩
  have hmono : ∀ y v, Rep F w os y v → Rep F w (os.set id o' ++ [p]) y v := fun y v h => rep_mono (fun _ h => h) (fun _ _ => rfl) os _ hos y v h
  have ho'o : ∀ b, o'.owns b → o.owns b := fun b hb => by
    rcases hb with hb | hb
    · exact .inl hb
    · exact .inr hb.1
  have hpoo : ∀ b, p.owns b → o.owns b := fun b hb => .inr (d1 _ _ _ (hpo b hb))
  have hdis : ∀ b, o'.owns b → ¬ p.owns b := fun b h1 h2 => by
    have h3 := hpo b h2
    rcases h1 with h1 | h1
    · exact (hok.mo b (d1 _ _ _ h3)).2.2 h1
    · exact h1.2 h3
  have hnew : Rep F w (os.set id o' ++ [p]) (.own st.length 0 ys.length) uv := by
    simp only [Rep]
    refine ⟨p, hpget, Nat.zero_le _, ?_, fun _ => ⟨by rw [hpr]; exact Nat.le_refl _, hpv⟩⟩
    rcases hpv with ⟨_, a, rfl⟩ | ⟨b, _, rfl⟩ <;> exact ⟨_, _, _, rfl⟩
  refine ⟨F, os.set id o' ++ [p], ⟨?_, fun t => hmono _ _ (hr.env t), hr.size, fun q oq hq => ?_, fun q q' oq oq' b hq hq' hb hb' => ?_, hr.old, hr.defers⟩, ⟨rfl, rfl, rfl, Nat.le_refl _, fun _ h => h, fun _ _ => rfl, fun b _ h1 h2 => ⟨rfl, h1, fun oq hoq hb => ?_⟩, fun q oq _ hq => hos q oq hq⟩⟩
  · rw [List.map_append, List.map_set, hst]
    simp only [o', hor, List.map_cons, List.map_nil, hpr]
  · rcases hget q oq hq with ⟨_, _, h⟩ | ⟨_, rfl⟩ | ⟨_, rfl⟩
    · have h0 := hr.rows q oq h
      refine ⟨h0.pos, h0.lens, h0.none, fun b hb => ?_, h0.mo, h0.deep⟩
      obtain ⟨e1, cur, e2, e3, e4, e5, e6⟩ := h0.some b hb
      exact ⟨e1, cur, e2, e3, e4, e5, fun i' y hy j' c hc => by obtain ⟨u, f1, f2⟩ := e6 i' y hy j' c hc; exact ⟨u, f1, hmono _ _ f2⟩⟩
    · refine ⟨hok.pos, fun y hy => ?_, (fun hn => by simp only [o'] at hn; rw [hbo] at hn; cases hn), fun b hb => ?_, fun b hb => hok.mo b hb.1, ?_⟩
      · rcases List.mem_or_eq_of_mem_set hy with hy | rfl
        · exact hok.lens y (by rw [hxs]; exact hy)
        · have h0 := hok.lens x (by rw [hxs]; exact List.mem_of_getElem? hx)
          refine ⟨by rw [List.length_set]; exact h0.1, fun c hcm => ?_⟩
          rcases List.mem_or_eq_of_mem_set hcm with h | rfl
          · exact h0.2 c h
          · rfl
      · simp only [o'] at hb
        rw [hbo] at hb; cases hb
        refine ⟨hnF, cur, hcur, hsz, by simpa [o', hxs] using hle, hmax, fun i' y hy j' c hcy => ?_⟩
        simp only [o'] at hy ⊢
        by_cases hi : i' = i
        · subst hi
          rw [List.getElem?_set_self hil, Option.some.injEq] at hy
          subst hy
          by_cases hj : j' = j
          · subst hj
            rw [List.getElem?_set_self hjl, Option.some.injEq] at hcy
            subst hcy
            exact ⟨uv, hu1, hnew⟩
          · rw [List.getElem?_set_ne (Ne.symm hj)] at hcy
            obtain ⟨u, f1, f2⟩ := hcells i' x (by rw [hxs]; exact hx) j' c hcy
            exact ⟨u, f1, hmono _ _ f2⟩
        · rw [List.getElem?_set_ne (Ne.symm hi)] at hy
          obtain ⟨u, f1, f2⟩ := hcells i' y (by rw [hxs]; exact hy) j' c hcy
          exact ⟨u, f1, hmono _ _ f2⟩
      · refine ⟨fun i' j' b => if i' = i ∧ j' = j then False else D i' j' b, fun i' j' b hb => ?_, fun i1 j1 i2 j2 b h1 h2 => ?_, fun b hb cur' el2 l hcur' i' y j' e2 s2 zs hy hcy => ?_⟩
        · simp only at hb
          split at hb
          · exact hb.elim
          · rename_i hij
            exact ⟨d1 i' j' b hb, fun h => hij (d2 _ _ _ _ _ hb h)⟩
        · simp only at h1 h2
          split at h1 <;> split at h2 <;> first | exact h1.elim | exact h2.elim | exact d2 _ _ _ _ _ h1 h2
        · simp only [o'] at hb hy ⊢
          rw [hbo] at hb; cases hb
          rw [hcur] at hcur'; cases hcur'
          have hold : (¬ (i' = i ∧ j' = j)) ∧ ∃ y0, o.row.xs[i']? = some y0 ∧ y0[j']? = some (.dv e2 s2 zs) := by
            rw [hxs]
            by_cases hi : i' = i
            · subst hi
              rw [List.getElem?_set_self hil, Option.some.injEq] at hy
              subst hy
              by_cases hj : j' = j
              · subst hj
                rw [List.getElem?_set_self hjl, Option.some.injEq] at hcy
                cases hcy
              · rw [List.getElem?_set_ne (Ne.symm hj)] at hcy
                exact ⟨fun h => hj h.2, x, hx, hcy⟩
            · rw [List.getElem?_set_ne (Ne.symm hi)] at hy
              exact ⟨fun h => hi h.1, y, hy, hcy⟩
          obtain ⟨hij, y0, hy0, hc0⟩ := hold
          obtain ⟨u, f1, f2⟩ := d3 bo hbo cur _ _ hcur i' y0 j' e2 s2 zs hy0 hc0
          exact ⟨u, f1, by simpa only [hij, if_false] using f2⟩
    · exact hpk _
  · rcases hget q oq hq with ⟨q1, q2, h⟩ | ⟨rfl, rfl⟩ | ⟨rfl, rfl⟩ <;> rcases hget q' oq' hq' with ⟨q1', q2', h'⟩ | ⟨rfl, rfl⟩ | ⟨rfl, rfl⟩
    · exact hr.inj q q' oq oq' b h h' hb hb'
    · exact hr.inj q _ oq o b h ho hb (ho'o b hb')
    · exact absurd (hr.inj q id oq o b h ho hb (hpoo b hb')) q1
    · exact hr.inj _ q' o oq' b ho h' (ho'o b hb) hb'
    · rfl
    · exact absurd hb' (hdis b hb)
    · exact absurd (hr.inj id q' o oq' b ho h' (hpoo b hb) hb').symm q1'
    · exact absurd hb (hdis b hb')
    · rfl
  · obtain ⟨q, hq⟩ := List.mem_iff_getElem?.1 hoq
    rcases hget q oq hq with ⟨_, _, h⟩ | ⟨_, rfl⟩ | ⟨_, rfl⟩
    · exact h2 oq (List.mem_of_getElem? h) hb
    · exact h2 o (List.mem_of_getElem? ho) (ho'o b hb)
    · exact h2 o (List.mem_of_getElem? ho) (hpoo b hb)

/-! ### In rows of encoded data -/
variable {α β : Type} {l : List α} {enc : α → List AV}

/-- The place of an element that is not as it is to be. -/
def hole (l : List α) (enc : α → List AV) (i : Int) (x : List AV) : List (List AV) := (l.map enc).set i.toNat x

theorem hole_full {i : Int} {u : α} {x : List AV} (h : x = enc u) : hole l enc i x = (Sh.put l i u).map enc := by subst h; exact map_put
theorem hole_get {i : Int} {u : α} {x : List AV} (h : Sh.get l i = some u) : (hole l enc i x)[i.toNat]? = some x := by
  have := (Sh.get_some h).2.2
  have h0 := (Sh.get_some h).1
  exact List.getElem?_set_self (by simp; omega)
theorem hole_set {i : Int} {x y : List AV} : (hole l enc i x).set i.toNat y = hole l enc i y := by unfold hole; rw [List.set_set]

/-- A slice under a cell of an element becomes a row. -/
theorem Wk.expel {id m g size sz nn j : Nat} {el el' : TypeId} {i : Int} {c : α} {ys : List β} {encY : β → List AV} {x x' : List AV} {e : Nat → AV} {st st' : List Row} (hrow : st[id]? = some ⟨g, el, size, l.map enc⟩) (hi : Sh.get l i = some c) (hx : enc c = x) (hc : x[j]? = some (.dv el' sz (ys.map encY)))
    (hm : st.length = m) (hx' : x.set j (.own m 0 ys.length) = x') (hst : st.set id ⟨g, el, size, hole l enc i x'⟩ ++ [⟨0, el', sz, ys.map encY⟩] = st') : Wk k ⟨nn, e, st⟩ ⟨nn, e, st'⟩ := by
  subst hst; subst hx'; subst hx
  exact Wk.expelD hrow (map_get hi) hc hm (n := ys.length) (by simp) rfl

/-- A row is taken in under a cell of the element that is not as it is to be. -/
theorem Wk.take {id m g gm size sz nn j n : Nat} {el el' : TypeId} {i : Int} {c : α} {ys : List β} {encY : β → List AV} {x x' : List AV} {e : Nat → AV} {st st' : List Row} (hrow : st[id]? = some ⟨g, el, size, hole l enc i x⟩) (hi : Sh.get l i = some c) (hc : x[j]? = some (.own m gm n))
    (hm : st[m]? = some ⟨gm, el', sz, ys.map encY⟩) (hn : n = ys.length) (hne : id ≠ m) (hkm : k ≤ m) (hd : ∀ y, (encY y).all deepC = true) (hx' : x.set j (.dv el' sz (ys.map encY)) = x') (hst : (st.set id ⟨g, el, size, hole l enc i x'⟩).set m ⟨gm + 1, el', sz, []⟩ = st') :
    Wk k ⟨nn, e, st⟩ ⟨nn, e, st'⟩ := by
  subst hst; subst hx'
  refine Wk.adoptD hrow (hole_get hi) hc hm (by simpa using hn) hne hkm (fun y hy c hc => ?_) (by rw [hole_set])
  obtain ⟨z, _, rfl⟩ := List.mem_map.1 hy
  exact List.all_eq_true.1 (hd z) c hc

/-- The element is as it is to be. -/
theorem Wk.filled {id g size nn : Nat} {el : TypeId} {i : Int} {u : α} {x : List AV} {e : Nat → AV} {st st' : List Row} (hrow : st[id]? = some ⟨g, el, size, hole l enc i x⟩) (hx : x = enc u) (hst : st.set id ⟨g, el, size, (Sh.put l i u).map enc⟩ = st') : Wk k ⟨nn, e, st⟩ ⟨nn, e, st'⟩ := by
  rw [hole_full hx] at hrow
  have : st.set id ⟨g, el, size, (Sh.put l i u).map enc⟩ = st := by
    obtain ⟨h1, h2⟩ := List.getElem?_eq_some_iff.1 hrow
    rw [← h2]; exact List.set_getElem_self h1
  rw [this] at hst
  exact Wk.steq hst

section
variable {ops : Array Oper} {Q : Exit → St → Prop} {ds : List (Option Tmp)} {r : List Oper} {n : Nat} {e : Nat → AV} {st st' : List Row} {ty : TypeId} {ps : String} {ed : Array Edge} {t : Tmp} {v : AV} {gd : Option (Nat × Bool)} {T : TypeId} {x y : Operand} {ag : Bool} {sz id g size : Nat} {el : TypeId} {cs : List AV} {c : α} {i : Int}
/-- A whole element is stored; it is not yet as it is to be. -/
theorem ao_sth (hg : GO ds gd e) (ht : tinfo P T = some (ag, sz)) (hx : St.ev ⟨n, e, st⟩ x = .ptr id g i.toNat 0) (hr : st[id]? = some ⟨g, el, size, l.map enc⟩) (hi : Sh.get l i = some c) (hv : St.ev ⟨n, e, st⟩ y = v) (hc : cellsV v = some cs) (hn : cs.length = sz) (hle : cs.length ≤ size)
    (hlen : (enc c).length = cs.length) (hst : st.set id ⟨g, el, size, hole l enc i cs⟩ = st') (hk : AO P k ops Q (ds ++ [none]) r ⟨n, e, st'⟩) : AO P k ops Q ds (⟨none, .store T x y, ty, ps, ed, gd⟩ :: r) ⟨n, e, st⟩ := by
  refine ao_str hg ht hx hr (map_get hi) hv hc hn (by omega) ?_ hk
  rw [← hst]
  have : splice (enc c) 0 cs = cs := by
    unfold splice
    rw [List.take_zero, List.nil_append, Nat.zero_add, List.drop_eq_nil_of_le (by omega), List.append_nil]
  rw [this]; rfl
end
end Go.Abs
