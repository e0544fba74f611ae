/- Slices that lie under the cells of a row: taken in, let out, made. -/
import Derived.Test.YtcpedchmkhlpnaaAbsW
namespace Go.Abs
open Go

/-- What may lie under a cell. -/
def deepC : AV → Bool
  | .int .. | .bool _ | .str _ | .zc | .nilp | .nilf | .dv .. => true
  | _ => false
def deepR (xs : List (List AV)) : Prop := ∀ x ∈ xs, ∀ c ∈ x, deepC c = true

theorem repD_of_rep {F S : Nat → Prop} {w : World} {os : List Own} {c : AV} {u : Value} (hc : deepC c = true) (hd : ∀ e s ys, c ≠ .dv e s ys) (h : Rep F w os c u) : RepD S w c u := by
  cases c <;> simp only [deepC, Bool.false_eq_true] at hc <;> simp only [Rep] at h <;> simp only [RepD] <;> first | exact h | exact absurd rfl (hd _ _ _)

theorem rep_of_repD {F S : Nat → Prop} {w : World} {os : List Own} {c : AV} {u : Value} (h : RepD S w c u) : Rep F w os c u ∧ c.kept = true ∧ deepC c = true := by
  cases c <;> simp only [RepD] at h
  case dv =>
    refine ⟨?_, rfl, rfl⟩
    simp only [Rep]
    rcases h.2 with ⟨_, a, rfl⟩ | ⟨b, cap, cur, rfl, _⟩ <;> exact ⟨_, _, _, rfl⟩
  all_goals first | exact h.elim | exact ⟨by simp only [Rep]; exact h, rfl, rfl⟩

theorem repDC_mk {w : World} {cur : Array Value} {D : Nat → Nat → Prop} (hdis : ∀ j j' b, D j b → D j' b → j = j') : ∀ (x : List AV) (o j0 : Nat), (∀ (j : Nat) c, x[j]? = some c → ∃ u, cur[o + j]? = some u ∧ RepD (D (j0 + j)) w c u) →
    RepDC (fun b => ∃ j, j0 ≤ j ∧ D j b) w x cur o
  | [], _, _, _ => by simp [RepDC]
  | c :: r, o, j0, h => by
    simp only [RepDC]
    obtain ⟨u, h1, h2⟩ := h 0 c rfl
    refine ⟨D j0, fun b => ∃ j, j0 + 1 ≤ j ∧ D j b, fun b hb => ⟨j0, Nat.le_refl _, hb⟩, fun b ⟨j, hj, hb⟩ => ⟨j, by omega, hb⟩, fun b hb ⟨j, hj, hb'⟩ => by have := hdis _ _ _ hb hb'; omega, ⟨u, h1, h2⟩, ?_⟩
    exact repDC_mk hdis r (o + 1) (j0 + 1) fun j c hc => by
      obtain ⟨u, h1, h2⟩ := h (j + 1) c (by simpa using hc)
      exact ⟨u, by rw [← h1]; congr 1; omega, by rw [show j0 + 1 + j = j0 + (j + 1) by omega]; exact h2⟩

theorem repDR_mk {w : World} {cur : Array Value} {size : Nat} {D : Nat → Nat → Nat → Prop} (hdis : ∀ i j i' j' b, D i j b → D i' j' b → i = i' ∧ j = j') : ∀ (xs : List (List AV)) (o i0 : Nat), (∀ x ∈ xs, x.length = size) →
    (∀ (i : Nat) x, xs[i]? = some x → ∀ (j : Nat) c, x[j]? = some c → ∃ u, cur[o + i * size + j]? = some u ∧ RepD (D (i0 + i) j) w c u) → RepDR (fun b => ∃ i j, i0 ≤ i ∧ D i j b) w xs cur o
  | [], _, _, _, _ => by simp [RepDR]
  | x :: r, o, i0, hs, h => by
    simp only [RepDR]
    refine ⟨fun b => ∃ j, 0 ≤ j ∧ D i0 j b, fun b => ∃ i j, i0 + 1 ≤ i ∧ D i j b, fun b ⟨j, _, hb⟩ => ⟨i0, j, Nat.le_refl _, hb⟩, fun b ⟨i, j, hi, hb⟩ => ⟨i, j, by omega, hb⟩, fun b ⟨j, _, hb⟩ ⟨i, j', hi, hb'⟩ => by have := (hdis _ _ _ _ _ hb hb').1; omega, ?_, ?_⟩
    · exact repDC_mk (D := D i0) (fun j j' b h1 h2 => (hdis _ _ _ _ _ h1 h2).2) x o 0 fun j c hc => by
        obtain ⟨u, h1, h2⟩ := h 0 x rfl j c hc
        exact ⟨u, by rw [← h1]; congr 1; omega, by simpa using h2⟩
    · rw [hs x (by simp)]
      exact repDR_mk hdis r (o + size) (i0 + 1) (fun x hx => hs x (by simp [hx])) fun i y hy j c hc => by
        obtain ⟨u, h1, h2⟩ := h (i + 1) y (by simpa using hy) j c hc
        exact ⟨u, by rw [← h1]; congr 1; rw [Nat.add_mul]; omega, by rw [show i0 + 1 + i = i0 + (i + 1) by omega]; exact h2⟩

theorem repDC_get {w : World} {cur : Array Value} : ∀ {x : List AV} {S : Nat → Prop} {o : Nat}, RepDC S w x cur o → ∃ D : Nat → Nat → Prop, (∀ j b, D j b → S b) ∧ (∀ j j' b, D j b → D j' b → j = j') ∧
    ∀ (j : Nat) c, x[j]? = some c → ∃ u, cur[o + j]? = some u ∧ RepD (D j) w c u
  | [], _, _, _ => ⟨fun _ _ => False, fun _ _ h => h.elim, fun _ _ _ h => h.elim, fun j c h => by simp at h⟩
  | c :: r, S, o, h => by
    simp only [RepDC] at h
    obtain ⟨S1, S2, h1, h2, h3, ⟨u, h4, h5⟩, h6⟩ := h
    obtain ⟨D, d1, d2, d3⟩ := repDC_get h6
    refine ⟨fun j => match j with | 0 => S1 | j + 1 => D j, fun j b hb => ?_, fun j j' b hb hb' => ?_, fun j c' hc => ?_⟩
    · cases j with
      | zero => exact h1 b hb
      | succ j => exact h2 b (d1 j b hb)
    · cases j with
      | zero =>
        cases j' with
        | zero => rfl
        | succ j' => exact absurd (d1 j' b hb') (h3 b hb)
      | succ j =>
        cases j' with
        | zero => exact absurd (d1 j b hb) (h3 b hb')
        | succ j' => rw [d2 j j' b hb hb']
    · cases j with
      | zero => simp only [List.getElem?_cons_zero, Option.some.injEq] at hc; subst hc; exact ⟨u, h4, h5⟩
      | succ j =>
        obtain ⟨u', g1, g2⟩ := d3 j c' (by simpa using hc)
        exact ⟨u', by rw [← g1]; congr 1; omega, g2⟩

theorem repDR_get {w : World} {cur : Array Value} {size : Nat} : ∀ {xs : List (List AV)} {S : Nat → Prop} {o : Nat}, (∀ x ∈ xs, x.length = size) → RepDR S w xs cur o → ∃ D : Nat → Nat → Nat → Prop, (∀ i j b, D i j b → S b) ∧
    (∀ i j i' j' b, D i j b → D i' j' b → i = i' ∧ j = j') ∧ ∀ (i : Nat) x, xs[i]? = some x → ∀ (j : Nat) c, x[j]? = some c → ∃ u, cur[o + i * size + j]? = some u ∧ RepD (D i j) w c u
  | [], _, _, _, _ => ⟨fun _ _ _ => False, fun _ _ _ h => h.elim, fun _ _ _ _ _ h => h.elim, fun i x h => by simp at h⟩
  | x :: r, S, o, hs, h => by
    simp only [RepDR] at h
    obtain ⟨S1, S2, h1, h2, h3, h4, h5⟩ := h
    obtain ⟨E, e1, e2, e3⟩ := repDC_get h4
    obtain ⟨D, d1, d2, d3⟩ := repDR_get (fun x hx => hs x (by simp [hx])) h5
    refine ⟨fun i => match i with | 0 => E | i + 1 => D i, fun i j b hb => ?_, fun i j i' j' b hb hb' => ?_, fun i y hy j c hc => ?_⟩
    · cases i with
      | zero => exact h1 b (e1 j b hb)
      | succ i => exact h2 b (d1 i j b hb)
    · cases i with
      | zero =>
        cases i' with
        | zero => exact ⟨rfl, e2 j j' b hb hb'⟩
        | succ i' => exact absurd (d1 i' j' b hb') (h3 b (e1 j b hb))
      | succ i =>
        cases i' with
        | zero => exact absurd (d1 i j b hb) (h3 b (e1 j' b hb'))
        | succ i' =>
          obtain ⟨q1, q2⟩ := d2 i j i' j' b hb hb'
          exact ⟨by rw [q1], q2⟩
    · cases i with
      | zero =>
        simp only [List.getElem?_cons_zero, Option.some.injEq] at hy; subst hy
        obtain ⟨u, g1, g2⟩ := e3 j c hc
        exact ⟨u, by rw [← g1]; congr 1; omega, g2⟩
      | succ i =>
        obtain ⟨u, g1, g2⟩ := d3 i y (by simpa using hy) j c hc
        rw [hs x (by simp)] at g1
        exact ⟨u, by rw [← g1]; congr 1; rw [Nat.add_mul]; omega, g2⟩

variable {P : Program} {F : Nat → Prop} {os : List Own} {s : St} {a : Act} {w : World} {k : Nat}

/-- A row as a slice that lies under a cell. -/
theorem ownOK_repD {p : Own} (h : OwnOK F w os p) (hd : deepR p.row.xs) {v : Value} (hv : (p.blk = none ∧ ∃ a, v = .slice a p.row.xs.length 0) ∨ ∃ b, p.blk = some b ∧ v = .slice (some ⟨b, 0, none⟩) p.row.xs.length p.cap) :
    RepD p.owns w (.dv p.row.elem p.row.size p.row.xs) v := by
  simp only [RepD]
  refine ⟨h.pos, ?_⟩
  rcases hv with ⟨hb, a, rfl⟩ | ⟨b, hb, rfl⟩
  · have := (h.none hb).1
    exact .inl ⟨this, a, by rw [this]; rfl⟩
  · obtain ⟨_, cur, hcur, hsz, hle, hmax, hcells⟩ := h.some b hb
    obtain ⟨D, d1, d2, d3⟩ := h.deep
    refine .inr ⟨b, p.cap, cur, rfl, hle, hmax, .inl hb, hcur, hsz, fun x hx => (h.lens x hx).1, ?_⟩
    have := repDR_mk (w := w) (cur := cur) (size := p.row.size) d2 p.row.xs 0 0 (fun x hx => (h.lens x hx).1) (fun i x hx j c hc => by
      simp only [Nat.zero_add]
      by_cases hdv : ∃ e s ys, c = .dv e s ys
      · obtain ⟨e, s, ys, rfl⟩ := hdv
        exact d3 b hb cur _ _ hcur i x j e s ys hx hc
      · obtain ⟨u, g1, g2⟩ := hcells i x hx j c hc
        exact ⟨u, g1, repD_of_rep (hd x (List.mem_of_getElem? hx) c (List.mem_of_getElem? hc)) (fun e s ys e' => hdv ⟨e, s, ys, e'⟩) g2⟩)
    exact repDR_mono (fun c ⟨i, j, _, hc⟩ => ⟨.inr (d1 i j c hc), fun e => (h.mo c (d1 i j c hc)).2.2 (by rw [hb, e])⟩) (fun _ _ => rfl) _ _ _ this

/-- A row is taken in under a cell of another. -/
theorem Wk.adoptD {id m g gm size sz n i j nn : Nat} {el el' : TypeId} {xs ys : List (List AV)} {x : List AV} {e : Nat → AV} {st st' : List Row} (hrow : st[id]? = some ⟨g, el, size, xs⟩) (hx : xs[i]? = some x) (hc : x[j]? = some (.own m gm n))
    (hm : st[m]? = some ⟨gm, el', sz, ys⟩) (hn : n = ys.length) (hne : id ≠ m) (hkm : k ≤ m) (hd : deepR ys) (hst : (st.set id ⟨g, el, size, xs.set i (x.set j (.dv el' sz ys))⟩).set m ⟨gm + 1, el', sz, []⟩ = st') :
    Wk k ⟨nn, e, st⟩ ⟨nn, e, st'⟩ := fun F os a w hr => by
  subst hst; subst hn
  obtain ⟨o, ho, hor⟩ := hr.row hrow
  obtain ⟨p, hp, hpr⟩ := hr.row hm
  have hok := hr.rows id o ho
  have hpk := hr.rows m p hp
  have hst : os.map Own.row = st := hr.st
  have hxs : o.row.xs = xs := by rw [hor]
  have hpx : p.row.xs = ys := by rw [hpr]
  let o' : Own := { o with row := { o.row with xs := xs.set i (x.set j (.dv el' sz ys)) }, more := fun b => o.more b ∨ p.owns b }
  let p' : Own := ⟨{ p.row with gen := p.row.gen + 1, xs := [] }, none, 0, none'⟩
  have hil : i < xs.length := (List.getElem?_eq_some_iff.1 hx).1
  have hjl : j < x.length := (List.getElem?_eq_some_iff.1 hc).1
  have hidl := (List.getElem?_eq_some_iff.1 ho).1
  have hml := (List.getElem?_eq_some_iff.1 hp).1
  have hdis : ∀ b, o.owns b → ¬ p.owns b := fun b h1 h2 => hne (hr.inj id m o p b ho hp h1 h2)
  have hget : ∀ (q : Nat) (oq : Own), ((os.set id o').set m p')[q]? = some oq → (q ≠ id ∧ q ≠ m ∧ os[q]? = some oq) ∨ (q = id ∧ oq = o') ∨ (q = m ∧ oq = p') := fun q oq hq => by
    by_cases e : q = m
    · subst e
      rw [List.getElem?_set_self (by simpa using hml), Option.some.injEq] at hq
      exact .inr (.inr ⟨rfl, hq.symm⟩)
    · rw [List.getElem?_set_ne (Ne.symm e)] at hq
      by_cases e2 : q = id
      · subst e2
        rw [List.getElem?_set_self hidl, Option.some.injEq] at hq
        exact .inr (.inl ⟨rfl, hq.symm⟩)
      · rw [List.getElem?_set_ne (Ne.symm e2)] at hq
        exact .inl ⟨e2, e, hq⟩
  have hos : HosLe os ((os.set id o').set m p') := fun q oq hq => by
    by_cases e : q = m
    · subst e
      rw [hp] at hq; cases hq
      exact ⟨p', List.getElem?_set_self (by simpa using hml), Nat.le_succ _, rfl, fun e => by simp [p'] at e⟩
    · rw [List.getElem?_set_ne (Ne.symm e)]
      by_cases e2 : q = id
      · subst e2
        rw [ho] at hq; cases hq
        exact ⟨o', List.getElem?_set_self hidl, Nat.le_refl _, rfl, fun _ => ⟨rfl, rfl, by simp [o', hxs]⟩⟩
      · rw [List.getElem?_set_ne (Ne.symm e2)]
        exact ⟨oq, hq, Nat.le_refl _, rfl, fun _ => ⟨rfl, rfl, rfl⟩⟩
  have hmono : ∀ y v, Rep F w os y v → Rep F w ((os.set id o').set m p') y v := fun y v h => rep_mono (fun _ h => h) (fun _ _ => rfl) os _ hos y v h
  have howns : ∀ b, o'.owns b → o.owns b ∨ p.owns b := fun b hb => by
    rcases hb with hb | hb | hb
    · exact .inl (.inl hb)
    · exact .inl (.inr hb)
    · exact .inr hb
  have hpn : ∀ b, ¬ p'.owns b := fun b hb => by rcases hb with hb | hb; · simp [p'] at hb
                                                · exact hb
  -- the blocks of the row that is turned
  obtain ⟨bo, hbo⟩ : ∃ b, o.blk = some b := by
    cases hb : o.blk with
    | none => have := (hok.none hb).1; rw [hxs] at this; rw [this] at hil; simp at hil
    | some b => exact ⟨b, rfl⟩
  obtain ⟨hnF, cur, hcur, hsz, hle, hmax, hcells⟩ := hok.some bo hbo
  obtain ⟨uv, hu1, hu2⟩ := hcells i x (by rw [hxs]; exact hx) j _ hc
  have huv : (p.blk = none ∧ ∃ a, uv = .slice a p.row.xs.length 0) ∨ ∃ b, p.blk = some b ∧ uv = .slice (some ⟨b, 0, none⟩) p.row.xs.length p.cap := by
    simp only [Rep] at hu2
    obtain ⟨q, hq, _, _, hv⟩ := hu2
    rw [hp] at hq; cases hq
    have := (hv (by rw [hpr])).2
    rw [hpx]; exact this
  have hRD : RepD p.owns w (.dv el' sz ys) uv := by
    have := ownOK_repD hpk (by rw [hpx]; exact hd) huv
    rw [hpr] at this; exact this
  refine ⟨F, (os.set id o').set m p', ⟨?_, fun t => hmono _ _ (hr.env t), hr.size, fun q oq hq => ?_, fun q q' oq oq' b hq hq' hb hb' => ?_, hr.old, hr.defers⟩, ⟨rfl, rfl, rfl, Nat.le_refl _, fun _ h => h, fun _ _ => rfl, fun b _ h1 h2 => ⟨rfl, h1, fun oq hoq hb => ?_⟩, fun q oq _ hq => hos q oq hq⟩⟩
  · rw [List.map_set, List.map_set, hst]
    simp only [o', p', hor, hpr]
  · rcases hget q oq hq with ⟨_, _, h⟩ | ⟨_, rfl⟩ | ⟨_, rfl⟩
    · have h0 := hr.rows q oq h
      refine ⟨h0.pos, h0.lens, h0.none, fun b hb => ?_, h0.mo, h0.deep⟩
      obtain ⟨e1, cur, e2, e3, e4, e5, e6⟩ := h0.some b hb
      exact ⟨e1, cur, e2, e3, e4, e5, fun i' y hy j' c hc => by obtain ⟨u, f1, f2⟩ := e6 i' y hy j' c hc; exact ⟨u, f1, hmono _ _ f2⟩⟩
    · refine ⟨hok.pos, fun y hy => ?_, (fun hn => by simp only [o'] at hn; rw [hbo] at hn; cases hn), fun b hb => ?_, fun b hb => ?_, ?_⟩
      · rcases List.mem_or_eq_of_mem_set hy with hy | rfl
        · exact hok.lens y (by rw [hxs]; exact hy)
        · have h0 := hok.lens x (by rw [hxs]; exact List.mem_of_getElem? hx)
          refine ⟨by rw [List.length_set]; exact h0.1, fun c hcm => ?_⟩
          rcases List.mem_or_eq_of_mem_set hcm with h | rfl
          · exact h0.2 c h
          · rfl
      · simp only [o'] at hb
        rw [hbo] at hb; cases hb
        refine ⟨hnF, cur, hcur, hsz, by simpa [o', hxs] using hle, hmax, fun i' y hy j' c hcy => ?_⟩
        simp only [o'] at hy ⊢
        by_cases hi : i' = i
        · subst hi
          rw [List.getElem?_set_self hil, Option.some.injEq] at hy
          subst hy
          by_cases hj : j' = j
          · subst hj
            rw [List.getElem?_set_self hjl, Option.some.injEq] at hcy
            subst hcy
            exact ⟨uv, hu1, (rep_of_repD hRD).1⟩
          · rw [List.getElem?_set_ne (Ne.symm hj)] at hcy
            obtain ⟨u, f1, f2⟩ := hcells i' x (by rw [hxs]; exact hx) j' c hcy
            exact ⟨u, f1, hmono _ _ f2⟩
        · rw [List.getElem?_set_ne (Ne.symm hi)] at hy
          obtain ⟨u, f1, f2⟩ := hcells i' y (by rw [hxs]; exact hy) j' c hcy
          exact ⟨u, f1, hmono _ _ f2⟩
      · rcases hb with hb | hb
        · exact hok.mo b hb
        · exact ⟨hpk.nF hb, hpk.lt hb, fun e => hdis b (.inl e) hb⟩
      · obtain ⟨D, d1, d2, d3⟩ := hok.deep
        refine ⟨fun i' j' b => if i' = i ∧ j' = j then p.owns b else D i' j' b, fun i' j' b hb => ?_, fun i1 j1 i2 j2 b h1 h2 => ?_, fun b hb cur' el2 l hcur' i' y j' e2 s2 zs hy hcy => ?_⟩
        · simp only at hb
          split at hb
          · exact .inr hb
          · exact .inl (d1 i' j' b hb)
        · simp only at h1 h2
          split at h1 <;> split at h2
          · rename_i q1 q2; exact ⟨q1.1.trans q2.1.symm, q1.2.trans q2.2.symm⟩
          · exact absurd h1 (hdis b (.inr (d1 _ _ _ h2)))
          · exact absurd h2 (hdis b (.inr (d1 _ _ _ h1)))
          · exact d2 _ _ _ _ _ h1 h2
        · simp only [o'] at hb hy ⊢
          rw [hbo] at hb; cases hb
          rw [hcur] at hcur'; cases hcur'
          by_cases hij : i' = i ∧ j' = j
          · obtain ⟨rfl, rfl⟩ := hij
            rw [List.getElem?_set_self hil, Option.some.injEq] at hy
            subst hy
            rw [List.getElem?_set_self hjl, Option.some.injEq] at hcy
            cases hcy
            exact ⟨uv, hu1, by simpa using hRD⟩
          · have hold : ∃ y0, o.row.xs[i']? = some y0 ∧ y0[j']? = some (.dv e2 s2 zs) := by
              rw [hxs]
              by_cases hi : i' = i
              · subst hi
                rw [List.getElem?_set_self hil, Option.some.injEq] at hy
                subst hy
                have hj : j' ≠ j := fun e => hij ⟨rfl, e⟩
                rw [List.getElem?_set_ne (Ne.symm hj)] at hcy
                exact ⟨x, hx, hcy⟩
              · rw [List.getElem?_set_ne (Ne.symm hi)] at hy
                exact ⟨y, hy, hcy⟩
            obtain ⟨y0, hy0, hc0⟩ := hold
            obtain ⟨u, f1, f2⟩ := d3 bo hbo cur _ _ hcur i' y0 j' e2 s2 zs hy0 hc0
            exact ⟨u, f1, by simpa only [hij, if_false] using f2⟩
    · exact ⟨hpk.pos, by simp [p'], by simp [p'], by simp [p'], fun b hb => hb.elim, DeepOK.flat (by simp [p'])⟩
  · rcases hget q oq hq with ⟨q1, q2, h⟩ | ⟨rfl, rfl⟩ | ⟨_, rfl⟩ <;> rcases hget q' oq' hq' with ⟨q1', q2', h'⟩ | ⟨rfl, rfl⟩ | ⟨_, rfl⟩
    · exact hr.inj q q' oq oq' b h h' hb hb'
    · rcases howns b hb' with e | e
      · exact hr.inj q _ oq o b h ho hb e
      · exact absurd (hr.inj q m oq p b h hp hb e) q2
    · exact absurd hb' (hpn b)
    · rcases howns b hb with e | e
      · exact hr.inj _ q' o oq' b ho h' e hb'
      · exact absurd (hr.inj m q' p oq' b hp h' e hb').symm q2'
    · rfl
    · exact absurd hb' (hpn b)
    · exact absurd hb (hpn b)
    · exact absurd hb (hpn b)
    · exact absurd hb (hpn b)
  · obtain ⟨q, hq⟩ := List.mem_iff_getElem?.1 hoq
    rcases hget q oq hq with ⟨_, _, h⟩ | ⟨_, rfl⟩ | ⟨_, rfl⟩
    · exact h2 oq (List.mem_of_getElem? h) hb
    · rcases howns b hb with e | e
      · exact h2 o (List.mem_of_getElem? ho) e
      · exact h2 p (List.mem_of_getElem? hp) e
    · exact hpn b hb
end Go.Abs
