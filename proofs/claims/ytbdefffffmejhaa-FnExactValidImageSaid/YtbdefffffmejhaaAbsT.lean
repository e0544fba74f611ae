/- Calls that are handed rows of the caller's, which they turn. -/
import Derived.Test.YtbdefffffmejhaaAbsP

namespace Go.Abs
open Go

variable {P : Program} {F : Nat → Prop} {os : List Own} {s : St} {a : Act} {w : World} {k : Nat}

/-- Holds no row beyond the first m. -/
def under1 (m : Nat) : AV → Bool
  | .own id _ _ | .ptr id _ _ _ => decide (id < m)
  | .fn .. | .agg _ | .tup _ => false
  | _ => true
def under (m : Nat) : AV → Bool
  | .fn _ cs | .agg cs | .tup cs => cs.all (under1 m)
  | v => under1 m v

theorem rep_under1 {m : Nat} {os1 os2 : List Own} (hos : ∀ i, i < m → os2[i]? = os1[i]?) {x : AV} {v : Value} (hx : under1 m x = true) (h : Rep F w os1 x v) : Rep F w os2 x v := by
  cases x with
  | own id g n => simp only [under1, decide_eq_true_eq] at hx; simp only [Rep] at h ⊢; rw [hos id hx]; exact h
  | ptr id g i off => simp only [under1, decide_eq_true_eq] at hx; simp only [Rep] at h ⊢; rw [hos id hx]; exact h
  | fn f cs => simp [under1] at hx
  | agg cs => simp [under1] at hx
  | tup cs => simp [under1] at hx
  | _ => simp only [Rep] at h ⊢ <;> exact h

theorem rep_under {m : Nat} {os1 os2 : List Own} (hos : ∀ i, i < m → os2[i]? = os1[i]?) {x : AV} {v : Value} (hx : under m x = true) (h : Rep F w os1 x v) : Rep F w os2 x v := by
  have hL : ∀ cs us, cs.all (under1 m) = true → RepL F w os1 cs us → RepL F w os2 cs us := fun cs us hc hl =>
    repL_mk (repL_length hl) fun i y u hy hu => by
      obtain ⟨u', hu', hr⟩ := repL_get hl i y hy
      rw [hu'] at hu; cases hu
      exact rep_under1 hos (List.all_eq_true.1 hc y (List.mem_of_getElem? hy)) hr
  cases x with
  | fn f cs => simp only [Rep] at h ⊢; obtain ⟨us, e, hl⟩ := h; exact ⟨us, e, hL cs us hx hl⟩
  | agg cs => simp only [Rep] at h ⊢; obtain ⟨us, e, hl⟩ := h; exact ⟨us, e, hL cs us hx hl⟩
  | tup cs => simp only [Rep] at h ⊢; obtain ⟨us, e, hl⟩ := h; exact ⟨us, e, hL cs us hx hl⟩
  | _ => exact rep_under1 hos hx h

def underRows (m : Nat) : List Row → Prop
  | [] => True
  | row :: r => (∀ x ∈ row.xs, ∀ c ∈ x, under1 m c = true) ∧ underRows m r
theorem underRows.get {m : Nat} : ∀ {l : List Row}, underRows m l → ∀ row ∈ l, ∀ x ∈ row.xs, ∀ c ∈ x, under1 m c = true
  | row :: r, h, row', hm => by
    rcases List.mem_cons.1 hm with rfl | hm
    · exact h.1
    · exact underRows.get h.2 row' hm
theorem simple_under {m : Nat} {c : AV} (h : simple c = true) : under1 m c = true := by cases c <;> simp [simple, under1] at h ⊢
theorem UR.pure {m : Nat} {row : Row} {r : List Row} (h : pureRow row.xs) (hr : underRows m r) : underRows m (row :: r) := ⟨fun x hx c hc => simple_under (h x hx c hc), hr⟩
theorem UR.raw {m g size : Nat} {el : TypeId} {cs : List AV} {r : List Row} (h : cs.all (under1 m) = true) (hr : underRows m r) : underRows m (⟨g, el, size, [cs]⟩ :: r) :=
  ⟨fun x hx c hc => by
    simp only [List.mem_singleton] at hx
    subst hx
    exact List.all_eq_true.1 h c hc, hr⟩

/-- Beyond the first m rows there are d that were not handed over. -/
def shm0 (m d : Nat) : AV → AV
  | .own id g n => .own (if id < m then id else id + d) g n
  | .ptr id g i off => .ptr (if id < m then id else id + d) g i off
  | .fn .. | .agg _ | .tup _ => .junk
  | v => v
def shm1 (m d : Nat) (x : AV) : AV := two (shm0 m d) x
def shm (m d : Nat) : AV → AV
  | .fn f cs => .fn f (cs.map (shm1 m d))
  | .agg cs => .agg (cs.map (shm1 m d))
  | .tup cs => .tup (cs.map (shm1 m d))
  | v => shm1 m d v

theorem rep_shm0 {m d : Nat} {os1 os2 : List Own} (hA : ∀ i, i < m → os2[i]? = os1[i]?) (hB : ∀ i, m ≤ i → os2[i + d]? = os1[i]?) {x : AV} {v : Value} (h : Rep F w os1 x v) : Rep F w os2 (shm0 m d x) v := by
  have hg : ∀ id, os2[if id < m then id else id + d]? = os1[id]? := fun id => by
    split
    · exact hA id (by assumption)
    · exact hB id (by omega)
  cases x with
  | own id g n => simp only [shm0, Rep] at h ⊢; rw [hg]; exact h
  | ptr id g i off => simp only [shm0, Rep] at h ⊢; rw [hg]; exact h
  | fn f cs => simp [shm0, Rep]
  | agg cs => simp [shm0, Rep]
  | tup cs => simp [shm0, Rep]
  | _ => simp only [shm0, Rep] at h ⊢ <;> exact h
theorem rep_shm1 {m d : Nat} {os1 os2 : List Own} (hA : ∀ i, i < m → os2[i]? = os1[i]?) (hB : ∀ i, m ≤ i → os2[i + d]? = os1[i]?) {x : AV} {v : Value} (h : Rep F w os1 x v) : Rep F w os2 (shm1 m d x) v :=
  rep_two (fun _ _ h => rep_shm0 hA hB h) _ _ h
theorem rep_shm {m d : Nat} {os1 os2 : List Own} (hA : ∀ i, i < m → os2[i]? = os1[i]?) (hB : ∀ i, m ≤ i → os2[i + d]? = os1[i]?) {x : AV} {v : Value} (h : Rep F w os1 x v) : Rep F w os2 (shm m d x) v := by
  have hL : ∀ cs us, RepL F w os1 cs us → RepL F w os2 (cs.map (shm1 m d)) us := fun cs us h =>
    repL_mk (by simp [repL_length h]) fun i x u hx hu => by
      simp only [List.getElem?_map, Option.map_eq_some_iff] at hx
      obtain ⟨y, hy, rfl⟩ := hx
      obtain ⟨u', hu', hr'⟩ := repL_get h i y hy
      rw [hu'] at hu; cases hu
      exact rep_shm1 hA hB hr'
  cases x with
  | fn f cs => simp only [shm, Rep] at h ⊢; obtain ⟨us, e, hl⟩ := h; exact ⟨us, e, hL _ _ hl⟩
  | agg cs => simp only [shm, Rep] at h ⊢; obtain ⟨us, e, hl⟩ := h; exact ⟨us, e, hL _ _ hl⟩
  | tup cs => simp only [shm, Rep] at h ⊢; obtain ⟨us, e, hl⟩ := h; exact ⟨us, e, hL _ _ hl⟩
  | _ => exact rep_shm1 hA hB h

/-- The first rows are handed over; the others stay; new ones come last. -/
theorem callThen_rows {f : FuncId} {args : List AV} {d : Option Tmp} {K : St → Prop} {rows0 rows1 rows2 rest : List Row} {v : AV} (h : ACalls P f args rows0 fun r st => r = v ∧ st = rows1 ++ rows2) (hlen : rows1.length = rows0.length)
    (hst : s.st = rows0 ++ rest) (hargs : args.all (under rows0.length) = true) (hur : underRows rows0.length rows0) (hur1 : underRows rows0.length rows1) (hpr : ∀ row ∈ rows2, pureRow' row.xs)
    (hK : K ({ s with st := rows1 ++ (rest ++ rows2) }.put d (shm rows0.length rest.length v))) : callThen P k s f args d K := by
  intro F os a w vs hr hl
  have hm : os.length = rows0.length + rest.length := by rw [← hr.len, hst, List.length_append]
  let m := rows0.length
  let osA := os.take m
  let osB := os.drop m
  have hAB : osA ++ osB = os := List.take_append_drop m os
  have hAl : osA.length = m := by simp [osA]; omega
  have hBl : osB.length = rest.length := by simp [osB]; omega
  have hgetA : ∀ i, i < m → osA[i]? = os[i]? := fun i hi => by simp [osA, List.getElem?_take, hi]
  have hgetB : ∀ i, osB[i]? = os[m + i]? := fun i => by simp [osB]
  have hstA : osA.map Own.row = rows0 := by
    have := hr.st
    rw [hst] at this
    have h2 : (os.map Own.row).take m = rows0 := by rw [this]; simp [m]
    rw [← h2, List.map_take]
  have hstB : osB.map Own.row = rest := by
    have := hr.st
    rw [hst] at this
    have h2 : (os.map Own.row).drop m = rest := by rw [this]; simp [m]
    rw [← h2, List.map_drop]
  have hSO : StoreOK F osA rows0 w := by
    refine ⟨hstA, fun i o ho => ?_, fun i j oi oj b hi hj => ?_, hr.old⟩
    · have hi : i < m := by rw [← hAl]; exact (List.getElem?_eq_some_iff.1 ho).1
      rw [hgetA i hi] at ho
      have hok := hr.rows i o ho
      refine ⟨hok.pos, hok.lens, hok.none, fun b hb => ?_, hok.mo, hok.deep⟩
      obtain ⟨e1, cur, e2, e3, e4, e5, e6⟩ := hok.some b hb
      refine ⟨e1, cur, e2, e3, e4, e5, fun i' x hx j c hc => ?_⟩
      obtain ⟨u, f1, f2⟩ := e6 i' x hx j c hc
      have hrow : o.row ∈ rows0 := by rw [← hstA]; exact List.mem_map.2 ⟨o, List.mem_of_getElem? (by rw [hgetA i hi]; exact ho), rfl⟩
      exact ⟨u, f1, rep_under1 hgetA (hur.get _ hrow x (List.mem_of_getElem? hx) c (List.mem_of_getElem? hc)) f2⟩
    · have hi' : i < m := by rw [← hAl]; exact (List.getElem?_eq_some_iff.1 hi).1
      have hj' : j < m := by rw [← hAl]; exact (List.getElem?_eq_some_iff.1 hj).1
      rw [hgetA i hi'] at hi
      rw [hgetA j hj'] at hj
      exact hr.inj i j oi oj b hi hj
  have hlA : RepL F w osA args vs := repL_mk (repL_length hl) fun i x u hx hu => by
    obtain ⟨u', hu', hr'⟩ := repL_get hl i x hx
    rw [hu'] at hu; cases hu
    exact rep_under hgetA (List.all_eq_true.1 hargs x (List.mem_of_getElem? hx)) hr'
  refine (h F osA w vs hSO hlA).mono ?_
  rintro e w' ⟨u, r, st', F', os', rfl, ⟨rfl, rfl⟩, hs, hru, he⟩
  have hl' : os'.length = m + rows2.length := by
    have := congrArg List.length hs.st
    rw [List.length_map, List.length_append] at this
    omega
  let osC := os'.take m
  let osN := os'.drop m
  have hCl : osC.length = m := by simp [osC]; omega
  have hCN : osC ++ osN = os' := List.take_append_drop m os'
  have hstC : osC.map Own.row = rows1 := by
    have h2 : (os'.map Own.row).take m = rows1 := by rw [hs.st]; simp [m, ← hlen]
    rw [← h2, List.map_take]
  have hstN : osN.map Own.row = rows2 := by
    have h2 : (os'.map Own.row).drop m = rows2 := by rw [hs.st]; simp [m, ← hlen]
    rw [← h2, List.map_drop]
  let os2 := osC ++ (osB ++ osN)
  have hget' : ∀ i, i < m → os2[i]? = os'[i]? := fun i hi => by
    simp only [os2]; rw [List.getElem?_append_left (by omega)]; simp [osC, List.getElem?_take, hi]
  have hgetM : ∀ i, m ≤ i → i - m < rest.length → os2[i]? = os[i]? := fun i hi h2 => by
    simp only [os2]; rw [List.getElem?_append_right (by omega), hCl, List.getElem?_append_left (by omega), hgetB]; congr 1; omega
  have hgetN : ∀ i, m ≤ i → os2[i + rest.length]? = os'[i]? := fun i hi => by
    simp only [os2]; rw [List.getElem?_append_right (by omega), hCl, List.getElem?_append_right (by omega), hBl]
    simp only [osN, List.getElem?_drop]; congr 1; omega
  -- the rows that stay
  have hB : ∀ (i : Nat) (o : Own), m ≤ i → os[i]? = some o → ∀ b, o.owns b → w'.heap[b]? = w.heap[b]? ∧ ¬ F' b ∧ ∀ o1 : Own, o1 ∈ os' → ¬ o1.owns b := fun i o hi ho b hb => by
    refine he.other b ((hr.rows _ o ho).lt hb) ((hr.rows _ o ho).nF hb) fun oA hoA e => ?_
    obtain ⟨j, hj⟩ := List.mem_iff_getElem?.1 hoA
    have hj' : j < m := by rw [← hAl]; exact (List.getElem?_eq_some_iff.1 hj).1
    rw [hgetA j hj'] at hj
    have := hr.inj j i oA o b hj ho e hb
    omega
  have hosle : HosLe os os2 := fun i o ho => by
    rcases Nat.lt_or_ge i m with hi | hi
    · rw [← hgetA i hi] at ho
      obtain ⟨o', ho', e1, e2, e3⟩ := he.pers i o hi ho
      exact ⟨o', by rw [hget' i hi]; exact ho', e1, e2, e3⟩
    · refine ⟨o, ?_, Nat.le_refl _, rfl, fun _ => ⟨rfl, rfl, rfl⟩⟩
      have := (List.getElem?_eq_some_iff.1 ho).1
      rw [hgetM i hi (by omega)]; exact ho
  have hmono : ∀ x v, Rep F w os x v → Rep F' w' os2 x v := fun x v h => rep_mono he.fsub he.fsame os _ hosle x v h
  -- what there is now
  have hcase : ∀ i o, os2[i]? = some o → (∃ j, os'[j]? = some o ∧ (i = j ∧ j < m ∨ m ≤ j ∧ i = j + rest.length)) ∨ (m ≤ i ∧ i < m + rest.length ∧ os[i]? = some o) := fun i o ho => by
    rcases Nat.lt_or_ge i m with hi | hi
    · exact .inl ⟨i, by rw [← hget' i hi]; exact ho, .inl ⟨rfl, hi⟩⟩
    · rcases Nat.lt_or_ge (i - m) rest.length with h2 | h2
      · exact .inr ⟨hi, by omega, by rw [← hgetM i hi h2]; exact ho⟩
      · refine .inl ⟨i - rest.length, ?_, .inr ⟨by omega, by omega⟩⟩
        rw [← hgetN _ (by omega), show i - rest.length + rest.length = i by omega]; exact ho
  refine ⟨u, _, rows1 ++ (rest ++ rows2), F', os2, rfl, hK, ⟨by simp only [os2]; rw [List.map_append, List.map_append, hstC, hstB, hstN], fun t => hmono _ _ (hr.env t), hr.size, fun i o ho => ?_, fun i j oi oj b hi hj hbi hbj => ?_, hs.old, hr.defers⟩, rep_shm hget' hgetN hru, ⟨he.sys, he.tape, he.output, he.size, he.fsub, he.fsame, fun b hb h1 h2 => ?_, fun i o hi ho => hosle i o ho⟩⟩
  · rcases hcase i o ho with ⟨j, hj, hij⟩ | ⟨h1, h2, ho2⟩
    · have hok := hs.rows j o hj
      refine ⟨hok.pos, hok.lens, hok.none, fun b hb => ?_, hok.mo, hok.deep⟩
      obtain ⟨e1, cur, e2, e3, e4, e5, e6⟩ := hok.some b hb
      refine ⟨e1, cur, e2, e3, e4, e5, fun i' x hx q c hc => ?_⟩
      obtain ⟨u', f1, f2⟩ := e6 i' x hx q c hc
      have hrow : os'.map Own.row = rows1 ++ rows2 := hs.st
      have hrj : (rows1 ++ rows2)[j]? = some o.row := by rw [← hrow, List.getElem?_map, hj]; rfl
      rcases hij with ⟨_, hjm⟩ | ⟨hjm, _⟩
      · rw [List.getElem?_append_left (by omega)] at hrj
        exact ⟨u', f1, rep_under1 hget' (hur1.get _ (List.mem_of_getElem? hrj) x (List.mem_of_getElem? hx) c (List.mem_of_getElem? hc)) f2⟩
      · rw [List.getElem?_append_right (by omega)] at hrj
        exact ⟨u', f1, rep_simple' (hpr _ (List.mem_of_getElem? hrj) x (List.mem_of_getElem? hx) c (List.mem_of_getElem? hc)) _ f2⟩
    · have hok := hr.rows _ o ho2
      refine ⟨hok.pos, hok.lens, hok.none, fun b hb => ?_, fun b hb => ⟨(hB _ o h1 ho2 b (.inr hb)).2.1, Nat.lt_of_lt_of_le (hok.mo b hb).2.1 he.size, (hok.mo b hb).2.2⟩,
        hok.deep.keep rfl (fun _ h => h) rfl (fun b hb => (hB _ o h1 ho2 b hb).1) (fun i x j e s ys hx hc => ⟨x, hx, hc⟩)⟩
      obtain ⟨e1, cur, e2, e3, e4, e5, e6⟩ := hok.some b hb
      obtain ⟨g1, g2, _⟩ := hB _ o h1 ho2 b (.inl hb)
      refine ⟨g2, cur, by rw [g1]; exact e2, e3, e4, e5, fun i' x hx j c hc => ?_⟩
      obtain ⟨u', f1, f2⟩ := e6 i' x hx j c hc
      exact ⟨u', f1, hmono _ _ f2⟩
  · rcases hcase i oi hi with ⟨i1, hi1, h1⟩ | ⟨h1, h2, hi1⟩ <;> rcases hcase j oj hj with ⟨j1, hj1, h3⟩ | ⟨h3, h4, hj1⟩
    · have := hs.inj i1 j1 oi oj b hi1 hj1 hbi hbj
      omega
    · exact absurd hbi ((hB _ oj h3 hj1 b hbj).2.2 oi (List.mem_of_getElem? hi1))
    · exact absurd hbj ((hB _ oi h1 hi1 b hbi).2.2 oj (List.mem_of_getElem? hj1))
    · exact hr.inj i j oi oj b hi1 hj1 hbi hbj
  · have h3 : ∀ o ∈ osA, ¬ o.owns b := fun o ho => h2 o (List.mem_of_mem_take ho)
    obtain ⟨g1, g2, g3⟩ := he.other b hb h1 h3
    refine ⟨g1, g2, fun o ho => ?_⟩
    simp only [os2] at ho
    rcases List.mem_append.1 ho with h | h
    · exact g3 o (List.mem_of_mem_take h)
    · rcases List.mem_append.1 h with h | h
      · exact h2 o (List.mem_of_mem_drop h)
      · exact g3 o (List.mem_of_mem_drop h)

section
variable {ops : Array Oper} {Q : Exit → St → Prop} {ds : List (Option Tmp)} {r : List Oper} {n : Nat} {e : Nat → AV} {st st' : List Row} {ty : TypeId} {ps : String} {ed : Array Edge} {d : Option Tmp} {v v' : AV} {gd : Option (Nat × Bool)}
variable {f : FuncId} {ars : Array Operand} {ts : Array TypeId} {args : List AV} {rows0 rows1 rows2 rest : List Row}
theorem ao_callm (hg : GO ds gd e) (hb : hasBody P f = true) (hc : ACalls P f args rows0 fun r st => r = v ∧ st = rows1 ++ rows2) (ha : ars.toList.map (St.ev ⟨n, e, st⟩) ++ [] = args) (hlen : rows1.length = rows0.length) (hst : st = rows0 ++ rest)
    (hf : args.all (under rows0.length) = true) (hur : underRows rows0.length rows0) (hur1 : underRows rows0.length rows1) (hp : PRows rows2) (hv : shm rows0.length rest.length v = v') (hst' : rows1 ++ (rest ++ rows2) = st')
    (hk : AO P k ops Q (ds ++ [d]) r (St.put ⟨n, e, st'⟩ d v')) : AO P k ops Q ds (⟨d, .call ⟨.value (.func f), ars, ts⟩, ty, ps, ed, gd⟩ :: r) ⟨n, e, st⟩ := by
  subst hst'; subst ha; subst hv
  refine ao_a hg ?_
  rw [st_call_func]
  exact ⟨hb, callThen_rows hc hlen hst hf hur hur1 hp.get hk⟩
end

/-! ### Rows in another order, with what leads to them -/

def selRow (sel : List Nat) (row : Row) : Row := { row with xs := row.xs.map (·.map (ren1 sel)) }

theorem Wk.selectR {n : Nat} {e : Nat → AV} {st : List Row} (sel : List Nat) (hk : sel.take k = List.range k) (hkr : ∀ i, i < k → ∀ row, st[i]? = some row → selRow sel row = row) (hnd : sel.Nodup) (hlt : ∀ i ∈ sel, i < st.length) (hl : leafRows ((pickRows st sel).map (selRow sel))) :
    Wk k ⟨n, e, st⟩ ⟨n, fun t => ren sel (e t), (pickRows st sel).map (selRow sel)⟩ := fun F os a w hr => by
  have hlen : st.length = os.length := hr.len
  have hk' : ∀ i, i < k → sel[i]? = some i := fun i hi => by
    have h1 : (sel.take k)[i]? = some i := by rw [hk]; simp [hi]
    rw [List.getElem?_take] at h1
    simpa [hi] using h1
  have hos1 : ∀ (j id : Nat), sel[j]? = some id → (sel.filterMap (os[·]?))[j]? = os[id]? := by
    have : ∀ (l : List Nat), (∀ i ∈ l, i < os.length) → ∀ (j id : Nat), l[j]? = some id → (l.filterMap (os[·]?))[j]? = os[id]? := fun l => by
      induction l with
      | nil => intro _ j id h; simp at h
      | cons i l ih =>
        intro hl j id h
        have hi := hl i (by simp)
        rw [List.filterMap_cons, List.getElem?_eq_getElem hi]
        cases j with
        | zero => simp only [List.getElem?_cons_zero, Option.some.injEq] at h; subst h; simp [List.getElem?_eq_getElem hi]
        | succ j => simp only [List.getElem?_cons_succ] at h ⊢; exact ih (fun x hx => hl x (by simp [hx])) j id h
    exact this sel (fun i hi => by rw [← hlen]; exact hlt i hi)
  let so : Own → Own := fun o => { o with row := selRow sel o.row }
  let os2 := (sel.filterMap (os[·]?)).map so
  have hl2 : (sel.filterMap (os[·]?)).length = sel.length := by
    have : ∀ (l : List Nat), (∀ i ∈ l, i < os.length) → (l.filterMap (os[·]?)).length = l.length := fun l => by
      induction l with
      | nil => simp
      | cons i l ih => intro hl; rw [List.filterMap_cons, List.getElem?_eq_getElem (hl i (by simp))]; simp [ih (fun x hx => hl x (by simp [hx]))]
    exact this sel (fun i hi => by rw [← hlen]; exact hlt i hi)
  have hget : ∀ (j : Nat) (o : Own), os2[j]? = some o → ∃ id o0, sel[j]? = some id ∧ os[id]? = some o0 ∧ o = so o0 := fun j o h => by
    simp only [os2, List.getElem?_map, Option.map_eq_some_iff] at h
    obtain ⟨o0, h0, rfl⟩ := h
    have hj : j < sel.length := by rw [← hl2]; exact (List.getElem?_eq_some_iff.1 h0).1
    refine ⟨sel[j], o0, List.getElem?_eq_getElem hj, ?_, rfl⟩
    rw [← hos1 j _ (List.getElem?_eq_getElem hj)]; exact h0
  have hren0 : ∀ x v, Rep F w os x v → Rep F w os2 (ren0 sel x) v := fun x v h => by
    have hidx : ∀ id j, idx sel id = some j → os2[j]? = (os[id]?).map so := fun id j hj => by
      unfold idx at hj
      rw [List.findIdx?_eq_some_iff_getElem] at hj
      obtain ⟨h1, h2, _⟩ := hj
      simp only [os2, List.getElem?_map]
      rw [hos1 j id (by rw [List.getElem?_eq_getElem h1]; simpa using h2)]
    cases x with
    | own id g n =>
      simp only [ren0]
      split
      · rename_i j hj
        simp only [Rep] at h ⊢
        obtain ⟨o, h1, h2, h3, h4⟩ := h
        exact ⟨so o, by rw [hidx id j hj, h1]; rfl, h2, h3, fun hg => by
          obtain ⟨a1, a2⟩ := h4 hg
          exact ⟨by simpa [so, selRow] using a1, a2⟩⟩
      · simp [Rep]
    | ptr id g i off =>
      simp only [ren0]
      split
      · rename_i j hj
        simp only [Rep] at h ⊢
        obtain ⟨o, h1, h2, h3, h4⟩ := h
        exact ⟨so o, by rw [hidx id j hj, h1]; rfl, h2, h3, fun hg => by
          obtain ⟨a1, a2, a3⟩ := h4 hg
          exact ⟨by simpa [so, selRow] using a1, a2, a3⟩⟩
      · simp [Rep]
    | fn f cs => simp [ren0, Rep]
    | agg cs => simp [ren0, Rep]
    | tup cs => simp [ren0, Rep]
    | _ => simp only [ren0, Rep] at h ⊢ <;> exact h
  have hren1 : ∀ x v, Rep F w os x v → Rep F w os2 (ren1 sel x) v := rep_two hren0
  have hrenL : ∀ cs us, RepL F w os cs us → RepL F w os2 (cs.map (ren1 sel)) us := fun cs us h =>
    repL_mk (by simp [repL_length h]) fun i x u hx hu => by
      simp only [List.getElem?_map, Option.map_eq_some_iff] at hx
      obtain ⟨y, hy, rfl⟩ := hx
      obtain ⟨u', hu', hr'⟩ := repL_get h i y hy
      rw [hu'] at hu; cases hu
      exact hren1 _ _ hr'
  have hren : ∀ x v, Rep F w os x v → Rep F w os2 (ren sel x) v := fun x v h => by
    cases x with
    | fn f cs => simp only [ren, Rep] at h ⊢; obtain ⟨us, e, hl⟩ := h; exact ⟨us, e, hrenL _ _ hl⟩
    | agg cs => simp only [ren, Rep] at h ⊢; obtain ⟨us, e, hl⟩ := h; exact ⟨us, e, hrenL _ _ hl⟩
    | tup cs => simp only [ren, Rep] at h ⊢; obtain ⟨us, e, hl⟩ := h; exact ⟨us, e, hrenL _ _ hl⟩
    | _ => exact hren1 _ _ h
  have hstR : os2.map Own.row = (pickRows st sel).map (selRow sel) := by
    have h0 : os.map Own.row = st := hr.st
    simp only [os2, pickRows, ← h0, List.map_map, List.map_filterMap]
    congr 1
    funext i
    simp only [List.getElem?_map]
    cases os[i]? <;> rfl
  refine ⟨F, os2, ⟨hstR, fun t => hren _ _ (hr.env t), hr.size, fun j o ho => ?_, fun i j oi oj b hi hj hbi hbj => ?_, hr.old, hr.defers⟩, ⟨rfl, rfl, rfl, Nat.le_refl _, fun _ h => h, fun _ _ => rfl, fun b _ h1 h2 => ⟨rfl, h1, fun o ho => ?_⟩, fun i o hi ho => ⟨o, ?_, Nat.le_refl _, rfl, fun _ => ⟨rfl, rfl, rfl⟩⟩⟩⟩
  · have hrow : o.row ∈ (pickRows st sel).map (selRow sel) := by rw [← hstR]; exact List.mem_map.2 ⟨o, List.mem_of_getElem? ho, rfl⟩
    obtain ⟨id, o0, hid, ho0, rfl⟩ := hget j o ho
    have hok := hr.rows id o0 ho0
    refine ⟨hok.pos, fun x hx => ⟨?_, hl _ hrow x hx⟩, fun hb => ?_, fun b hb => ?_, hok.mo, hok.deep.mapped (ren1 sel) (fun _ _ _ _ h => ren1_dv h) rfl rfl rfl rfl⟩
    · simp only [so, selRow, List.mem_map] at hx
      obtain ⟨y, hy, rfl⟩ := hx
      simpa [so, selRow] using (hok.lens y hy).1
    · obtain ⟨h1, h2⟩ := hok.none hb
      exact ⟨by simp [so, selRow, h1], h2⟩
    · obtain ⟨h1, cur, h2, h3, h4, h5, h6⟩ := hok.some b hb
      refine ⟨h1, cur, h2, h3, by simpa [so, selRow] using h4, h5, fun i x hx j' c hc => ?_⟩
      simp only [so, selRow, List.getElem?_map, Option.map_eq_some_iff] at hx
      obtain ⟨y, hy, rfl⟩ := hx
      simp only [List.getElem?_map, Option.map_eq_some_iff] at hc
      obtain ⟨c0, hc0, rfl⟩ := hc
      obtain ⟨u, e1, e2⟩ := h6 i y hy j' c0 hc0
      exact ⟨u, e1, hren1 _ _ e2⟩
  · obtain ⟨id, o0, hid, ho0, rfl⟩ := hget i oi hi
    obtain ⟨id', o0', hid', ho0', rfl⟩ := hget j oj hj
    have he := hr.inj id id' o0 o0' b ho0 ho0' hbi hbj
    subst he
    obtain ⟨hi1, hi2⟩ := List.getElem?_eq_some_iff.1 hid
    obtain ⟨hj1, hj2⟩ := List.getElem?_eq_some_iff.1 hid'
    have hp := List.pairwise_iff_getElem.1 hnd
    rcases Nat.lt_trichotomy i j with h | h | h
    · exact absurd (hi2.trans hj2.symm) (hp i j hi1 hj1 h)
    · exact h
    · exact absurd (hj2.trans hi2.symm) (hp j i hj1 hi1 h)
  · simp only [os2, List.mem_map, List.mem_filterMap] at ho
    obtain ⟨o0, ⟨i, _, hi⟩, rfl⟩ := ho
    exact h2 o0 (List.mem_of_getElem? hi)
  · simp only [os2, List.getElem?_map]
    rw [hos1 i i (hk' i hi), ho]
    have hrow : st[i]? = some o.row := by
      have h0 : os.map Own.row = st := hr.st
      rw [← h0, List.getElem?_map, ho]; rfl
    have := hkr i hi o.row hrow
    simp only [Option.map_some, so, this]

theorem Wk.selR {n : Nat} {e : Nat → AV} {st st' : List Row} {L : List (Nat × AV)} (sel : List Nat) (hk : sel.take k = List.range k) (hkr : ∀ i, i < k → ∀ row, st[i]? = some row → selRow sel row = row) (hnd : sel.Nodup) (hlt : sel.all (· < st.length) = true)
    (hst : (pickRows st sel).map (selRow sel) = st') (hl : leafRows st') (h : ME (fun t => ren sel (e t)) L) : Wk k ⟨n, e, st⟩ ⟨n, envL L, st'⟩ := by
  subst hst
  exact (Wk.selectR sel hk hkr hnd (fun i hi => by simpa using List.all_eq_true.1 hlt i hi) hl).trans (Wk.to h)

/-- Rows after a renumbering, printed. -/
inductive SR (sel : List Nat) : List Row → List Row → Prop
  | nil : SR sel [] []
  | deep {g size : Nat} {el : TypeId} {xs : List (List AV)} {r r' : List Row} (hp : pureRow' xs) (hl : SR sel r r') : SR sel (⟨g, el, size, xs⟩ :: r) (⟨g, el, size, xs⟩ :: r')
  | raw {g size : Nat} {el : TypeId} {cs cs' : List AV} {r r' : List Row} (hc : cs.map (ren1 sel) = cs') (hp : cs'.all AV.leaf = true) (hl : SR sel r r') : SR sel (⟨g, el, size, [cs]⟩ :: r) (⟨g, el, size, [cs']⟩ :: r')

theorem SR.pure {sel : List Nat} {g size : Nat} {el : TypeId} {xs : List (List AV)} {r r' : List Row} (hp : pureRow xs) (hl : SR sel r r') : SR sel (⟨g, el, size, xs⟩ :: r) (⟨g, el, size, xs⟩ :: r') := .deep hp.any hl

theorem ren1_simple' {sel : List Nat} {c : AV} (h : simple' c = true) : ren1 sel c = c := by cases c <;> simp [simple', simple, ren1, two, ren0] at h ⊢
theorem ren1_simple {sel : List Nat} {c : AV} (h : simple c = true) : ren1 sel c = c := by cases c <;> simp [simple, ren1, two, ren0] at h ⊢

theorem SR.spec {sel : List Nat} {st0 : List Row} (hle : ∀ row ∈ st0, ∀ x ∈ row.xs, ∀ c ∈ x, c.kept = true) : ∀ {l l' : List Row}, SR sel l l' → (∀ row ∈ l, row ∈ st0) → l.map (selRow sel) = l' ∧ leafRows l'
  | _, _, .nil, _ => ⟨rfl, fun _ h => by cases h⟩
  | _, _, .deep hp hl, hm => by
    obtain ⟨h1, h2⟩ := SR.spec hle hl (fun row h => hm row (List.mem_cons_of_mem _ h))
    have hlf := hle _ (hm _ (List.mem_cons_self ..))
    refine ⟨?_, ?_⟩
    · simp only [List.map_cons, h1]
      congr 1
      simp only [selRow]
      congr 1
      refine (List.map_congr_left (g := id) fun x hx => ?_).trans (List.map_id _)
      refine (List.map_congr_left (g := id) fun c hc => ?_).trans (List.map_id _)
      exact ren1_simple' (hp x hx c hc)
    · intro row hrow
      rcases List.mem_cons.1 hrow with rfl | h
      · exact hlf
      · exact h2 row h
  | _, _, .raw hc hp hl, hm => by
    obtain ⟨h1, h2⟩ := SR.spec hle hl (fun row h => hm row (List.mem_cons_of_mem _ h))
    refine ⟨?_, ?_⟩
    · simp only [List.map_cons, h1, selRow, List.map_nil, hc]
    · intro row hrow
      rcases List.mem_cons.1 hrow with rfl | h
      · intro x hx c hcx
        simp only [List.mem_singleton] at hx
        subst hx
        exact AV.kept_leaf (List.all_eq_true.1 hp c hcx)
      · exact h2 row h

theorem rel_leaf {n : Nat} {e : Nat → AV} {st : List Row} (hr : Rel F os ⟨n, e, st⟩ a w) : ∀ row ∈ st, ∀ x ∈ row.xs, ∀ c ∈ x, c.kept = true := fun row hrow x hx c hc => by
  have hst := hr.st
  simp only at hst
  rw [← hst] at hrow
  obtain ⟨o, ho, rfl⟩ := List.mem_map.1 hrow
  obtain ⟨i, hi⟩ := List.mem_iff_getElem?.1 ho
  exact ((hr.rows i o hi).lens x hx).2 c hc

/-- Rows in another order: printed. -/
theorem Wk.perm {n : Nat} {e : Nat → AV} {st st1 st' : List Row} {L : List (Nat × AV)} (sel : List Nat) (hnd : sel.Nodup) (hlt : sel.all (· < st.length) = true) (hp : pickRows st sel = st1) (hs : SR sel st1 st') (h : ME (fun t => ren sel (e t)) L) :
    Wk 0 ⟨n, e, st⟩ ⟨n, envL L, st'⟩ := fun F os a w hr => by
  have hle := rel_leaf hr
  obtain ⟨h1, h2⟩ := hs.spec (st0 := st) hle (fun row hrow => by
    rw [← hp] at hrow
    obtain ⟨i, _, hi⟩ := List.mem_filterMap.1 hrow
    exact List.mem_of_getElem? hi)
  exact Wk.selR sel (by simp) (fun i hi => absurd hi (Nat.not_lt_zero _)) hnd hlt (by rw [hp]; exact h1) h2 h F os a w hr

/-! ### A row's count of turnings, one more -/

def bp0 (id g : Nat) : AV → AV
  | .own id' g' n => if id' = id ∧ g' = g then .own id (g + 1) n else .own id' g' n
  | .ptr id' g' i off => if id' = id ∧ g' = g then .ptr id (g + 1) i off else .ptr id' g' i off
  | .fn .. | .agg _ | .tup _ => .junk
  | v => v
def bp1 (id g : Nat) (x : AV) : AV := two (bp0 id g) x
theorem bp1_dv {id g : Nat} {c : AV} {el s : Nat} {ys : List (List AV)} (h : bp1 id g c = .dv el s ys) : c = .dv el s ys := by
  refine two_dv (X := bp0 id g) (fun c h => ?_) h
  cases c <;> simp only [bp0] at h <;> first | exact h | cases h | (repeat' split at h) <;> first | cases h | exact h

def bp (id g : Nat) : AV → AV
  | .fn f cs => .fn f (cs.map (bp1 id g))
  | .agg cs => .agg (cs.map (bp1 id g))
  | .tup cs => .tup (cs.map (bp1 id g))
  | v => bp1 id g v

def bpRow (id g : Nat) (row : Row) : Row := { row with xs := row.xs.map (·.map (bp1 id g)) }
def bpUp (row : Row) : Row := { row with gen := row.gen + 1 }

theorem bp1_simple {id g : Nat} {c : AV} (h : simple c = true) : bp1 id g c = c := by cases c <;> simp [simple, bp1, two, bp0] at h ⊢

theorem Wk.bumpS {n : Nat} {e : Nat → AV} {st : List Row} {id : Nat} {row : Row} (hrow : st[id]? = some row) (hl : leafRows (st.map (bpRow id row.gen))) :
    Wk k ⟨n, e, st⟩ ⟨n, fun t => bp id row.gen (e t), (st.map (bpRow id row.gen)).modify id bpUp⟩ := fun F os a w hr => by
  let so : Nat → Own → Own := fun i o => { o with row := if i = id then bpUp (bpRow id row.gen o.row) else bpRow id row.gen o.row }
  let os2 := os.mapIdx so
  have hst0 : os.map Own.row = st := hr.st
  obtain ⟨oi, hoi, hoir⟩ : ∃ o, os[id]? = some o ∧ o.row = row := by
    rw [← hst0, List.getElem?_map, Option.map_eq_some_iff] at hrow
    exact hrow
  have hget : ∀ i, os2[i]? = (os[i]?).map (so i) := fun i => by simp [os2]
  have hsx : ∀ i o, (so i o).row.xs = o.row.xs.map (·.map (bp1 id row.gen)) := fun i o => by
    simp only [so]; split <;> rfl
  have hsz : ∀ i o, (so i o).row.size = o.row.size := fun i o => by simp only [so]; split <;> rfl
  have hse : ∀ i o, (so i o).row.elem = o.row.elem := fun i o => by simp only [so]; split <;> rfl
  have hsg : ∀ i o, (so i o).row.gen = if i = id then o.row.gen + 1 else o.row.gen := fun i o => by simp only [so]; split <;> rfl
  have hb0 : ∀ x v, Rep F w os x v → Rep F w os2 (bp0 id row.gen x) v := fun x v h => by
    cases x with
    | own id' g' n' =>
      simp only [Rep] at h
      obtain ⟨o, h1, h2, h3, h4⟩ := h
      simp only [bp0]
      by_cases hc : id' = id ∧ g' = row.gen
      · rw [if_pos hc]
        obtain ⟨rfl, rfl⟩ := hc
        have : o = oi := by rw [hoi] at h1; cases h1; rfl
        subst this
        simp only [Rep]
        refine ⟨so id' o, by rw [hget, hoi]; rfl, by rw [hsg]; simp [hoir], h3, fun _ => ?_⟩
        obtain ⟨a1, a2⟩ := h4 (by rw [hoir])
        exact ⟨by rw [hsx]; simpa using a1, a2⟩
      · rw [if_neg hc]
        simp only [Rep]
        refine ⟨so id' o, by rw [hget, h1]; rfl, by rw [hsg]; split <;> omega, h3, fun hg => ?_⟩
        rw [hsg] at hg
        by_cases hi : id' = id
        · subst hi
          rw [hoi] at h1; cases h1
          rw [if_pos rfl] at hg
          omega
        · rw [if_neg hi] at hg
          obtain ⟨a1, a2⟩ := h4 hg
          exact ⟨by rw [hsx]; simpa using a1, a2⟩
    | ptr id' g' i' off =>
      simp only [Rep] at h
      obtain ⟨o, h1, h2, h3, h4⟩ := h
      simp only [bp0]
      by_cases hc : id' = id ∧ g' = row.gen
      · rw [if_pos hc]
        obtain ⟨rfl, rfl⟩ := hc
        have : o = oi := by rw [hoi] at h1; cases h1; rfl
        subst this
        simp only [Rep]
        refine ⟨so id' o, by rw [hget, hoi]; rfl, by rw [hsg]; simp [hoir], h3, fun _ => ?_⟩
        obtain ⟨a1, a2, a3⟩ := h4 (by rw [hoir])
        exact ⟨by rw [hsx]; simpa using a1, by rw [hsz]; exact a2, by rw [hsz]; exact a3⟩
      · rw [if_neg hc]
        simp only [Rep]
        refine ⟨so id' o, by rw [hget, h1]; rfl, by rw [hsg]; split <;> omega, h3, fun hg => ?_⟩
        rw [hsg] at hg
        by_cases hi : id' = id
        · subst hi
          rw [hoi] at h1; cases h1
          rw [if_pos rfl] at hg
          omega
        · rw [if_neg hi] at hg
          obtain ⟨a1, a2, a3⟩ := h4 hg
          exact ⟨by rw [hsx]; simpa using a1, by rw [hsz]; exact a2, by rw [hsz]; exact a3⟩
    | fn f caps => simp [bp0, Rep]
    | agg cs => simp [bp0, Rep]
    | tup cs => simp [bp0, Rep]
    | _ => simp only [bp0, Rep] at h ⊢ <;> exact h
  have hb1 : ∀ x v, Rep F w os x v → Rep F w os2 (bp1 id row.gen x) v := rep_two hb0
  have hbL : ∀ cs us, RepL F w os cs us → RepL F w os2 (cs.map (bp1 id row.gen)) us := fun cs us h =>
    repL_mk (by simp [repL_length h]) fun i x u hx hu => by
      simp only [List.getElem?_map, Option.map_eq_some_iff] at hx
      obtain ⟨y, hy, rfl⟩ := hx
      obtain ⟨u', hu', hr'⟩ := repL_get h i y hy
      rw [hu'] at hu; cases hu
      exact hb1 _ _ hr'
  have hb : ∀ x v, Rep F w os x v → Rep F w os2 (bp id row.gen x) v := fun x v h => by
    cases x with
    | fn f cs => simp only [bp, Rep] at h ⊢; obtain ⟨us, e, hl⟩ := h; exact ⟨us, e, hbL _ _ hl⟩
    | agg cs => simp only [bp, Rep] at h ⊢; obtain ⟨us, e, hl⟩ := h; exact ⟨us, e, hbL _ _ hl⟩
    | tup cs => simp only [bp, Rep] at h ⊢; obtain ⟨us, e, hl⟩ := h; exact ⟨us, e, hbL _ _ hl⟩
    | _ => exact hb1 _ _ h
  have hst2 : os2.map Own.row = (st.map (bpRow id row.gen)).modify id bpUp := by
    apply List.ext_getElem?
    intro i
    rw [List.getElem?_map, hget, List.getElem?_modify, List.getElem?_map, ← hst0, List.getElem?_map]
    cases os[i]? with
    | none => rfl
    | some o =>
      simp only [Option.map_some, so]
      by_cases hi : i = id
      · simp [hi]
      · have : ¬ id = i := fun h => hi h.symm
        simp [hi, this]
  refine ⟨F, os2, ⟨hst2, fun t => hb _ _ (hr.env t), hr.size, fun i o ho => ?_, fun i j oi' oj' b hi hj hbi hbj => ?_, hr.old, hr.defers⟩, ⟨rfl, rfl, rfl, Nat.le_refl _, fun _ h => h, fun _ _ => rfl, fun b _ h1 h2 => ⟨rfl, h1, fun o ho => ?_⟩, fun i o hi ho => ⟨so i o, by rw [hget, ho]; rfl, by rw [hsg]; split <;> omega, hsz i o, fun _ => ⟨rfl, rfl, by rw [hsx]; simp⟩⟩⟩⟩
  · rw [hget, Option.map_eq_some_iff] at ho
    obtain ⟨o0, ho0, rfl⟩ := ho
    have hok := hr.rows i o0 ho0
    have hm : bpRow id row.gen o0.row ∈ st.map (bpRow id row.gen) := List.mem_map.2 ⟨o0.row, by rw [← hst0]; exact List.mem_map.2 ⟨o0, List.mem_of_getElem? ho0, rfl⟩, rfl⟩
    refine ⟨by rw [hsz]; exact hok.pos, fun x hx => ?_, fun hbn => ?_, fun b hbb => ?_, hok.mo, hok.deep.mapped (bp1 id row.gen) (fun _ _ _ _ h => bp1_dv h) rfl rfl (hsz _ _) (hsx _ _)⟩
    · rw [hsx] at hx
      refine ⟨?_, hl _ hm x hx⟩
      obtain ⟨y, hy, rfl⟩ := List.mem_map.1 hx
      rw [hsz, List.length_map]; exact (hok.lens y hy).1
    · obtain ⟨h1, h2⟩ := hok.none hbn
      exact ⟨by rw [hsx, h1]; rfl, h2⟩
    · obtain ⟨h1, cur, h2, h3, h4, h5, h6⟩ := hok.some b hbb
      refine ⟨h1, cur, by rw [hse]; exact h2, by rw [hsz]; exact h3, by rw [hsx, List.length_map]; exact h4, h5, fun i' x hx j c hc => ?_⟩
      rw [hsx, List.getElem?_map, Option.map_eq_some_iff] at hx
      obtain ⟨y, hy, rfl⟩ := hx
      rw [List.getElem?_map, Option.map_eq_some_iff] at hc
      obtain ⟨c0, hc0, rfl⟩ := hc
      obtain ⟨u, e1, e2⟩ := h6 i' y hy j c0 hc0
      exact ⟨u, by rw [hsz]; exact e1, hb1 _ _ e2⟩
  · rw [hget, Option.map_eq_some_iff] at hi hj
    obtain ⟨o1, ho1, rfl⟩ := hi
    obtain ⟨o2, ho2, rfl⟩ := hj
    exact hr.inj i j o1 o2 b ho1 ho2 hbi hbj
  · obtain ⟨i, hi⟩ := List.mem_iff_getElem?.1 ho
    rw [hget, Option.map_eq_some_iff] at hi
    obtain ⟨o0, h0, rfl⟩ := hi
    exact h2 o0 (List.mem_of_getElem? h0)

/-- Rows after that, printed. -/
inductive BR (id g : Nat) : List Row → List Row → Prop
  | nil : BR id g [] []
  | deep {g' size : Nat} {el : TypeId} {xs : List (List AV)} {r r' : List Row} (hp : pureRow' xs) (hl : BR id g r r') : BR id g (⟨g', el, size, xs⟩ :: r) (⟨g', el, size, xs⟩ :: r')
  | raw {g' size : Nat} {el : TypeId} {cs cs' : List AV} {r r' : List Row} (hc : cs.map (bp1 id g) = cs') (hp : cs'.all AV.leaf = true) (hl : BR id g r r') : BR id g (⟨g', el, size, [cs]⟩ :: r) (⟨g', el, size, [cs']⟩ :: r')

theorem BR.pure {id g : Nat} {g' size : Nat} {el : TypeId} {xs : List (List AV)} {r r' : List Row} (hp : pureRow xs) (hl : BR id g r r') : BR id g (⟨g', el, size, xs⟩ :: r) (⟨g', el, size, xs⟩ :: r') := .deep hp.any hl

theorem bp1_simple' {id g : Nat} {c : AV} (h : simple' c = true) : bp1 id g c = c := by cases c <;> simp [simple', simple, bp1, two, bp0] at h ⊢

theorem BR.spec {id g : Nat} {st0 : List Row} (hle : ∀ row ∈ st0, ∀ x ∈ row.xs, ∀ c ∈ x, c.kept = true) : ∀ {l l' : List Row}, BR id g l l' → (∀ row ∈ l, row ∈ st0) → l.map (bpRow id g) = l' ∧ leafRows l'
  | _, _, .nil, _ => ⟨rfl, fun _ h => by cases h⟩
  | _, _, .deep hp hl, hm => by
    obtain ⟨h1, h2⟩ := BR.spec hle hl (fun row h => hm row (List.mem_cons_of_mem _ h))
    have hlf := hle _ (hm _ (List.mem_cons_self ..))
    refine ⟨?_, ?_⟩
    · simp only [List.map_cons, h1]
      congr 1
      simp only [bpRow]
      congr 1
      refine (List.map_congr_left (g := fun x => x) fun x hx => ?_).trans (List.map_id _)
      refine (List.map_congr_left (g := fun x => x) fun c hc => ?_).trans (List.map_id _)
      exact bp1_simple' (hp x hx c hc)
    · intro row hrow
      rcases List.mem_cons.1 hrow with rfl | h
      · exact hlf
      · exact h2 row h
  | _, _, .raw hc hp hl, hm => by
    obtain ⟨h1, h2⟩ := BR.spec hle hl (fun row h => hm row (List.mem_cons_of_mem _ h))
    refine ⟨?_, ?_⟩
    · simp only [List.map_cons, h1, bpRow, List.map_nil, hc]
    · intro row hrow
      rcases List.mem_cons.1 hrow with rfl | h
      · intro x hx c hcx
        simp only [List.mem_singleton] at hx
        subst hx
        exact AV.kept_leaf (List.all_eq_true.1 hp c hcx)
      · exact h2 row h

theorem Wk.bump {n : Nat} {e : Nat → AV} {st st1 st' : List Row} {L : List (Nat × AV)} (id : Nat) {row : Row} (hrow : st[id]? = some row) (hb : BR id row.gen st st1) (hst : st1.modify id bpUp = st') (h : ME (fun t => bp id row.gen (e t)) L) : Wk k ⟨n, e, st⟩ ⟨n, envL L, st'⟩ := fun F os a w hr => by
  obtain ⟨h1, h2⟩ := hb.spec (st0 := st) (rel_leaf hr) (fun _ h => h)
  have h3 := Wk.bumpS (k := k) (n := n) (e := e) hrow (by rw [h1]; exact h2)
  rw [h1, hst] at h3
  exact (h3.trans (Wk.to h)) F os a w hr

/-! ### The counts begin anew, but for the first rows -/

def rk0 (m : Nat) (st : List Row) : AV → AV
  | .own id g n => if id < m then .own id g n else match st[id]? with
    | some row => if row.gen = g then .own id 0 n else .junk
    | none => .junk
  | .ptr id g i off => if id < m then .ptr id g i off else match st[id]? with
    | some row => if row.gen = g then .ptr id 0 i off else .junk
    | none => .junk
  | .fn .. | .agg _ | .tup _ => .junk
  | v => v
def rk1 (m : Nat) (st : List Row) (x : AV) : AV := two (rk0 m st) x
theorem rk1_dv {m : Nat} {st : List Row} {c : AV} {el s : Nat} {ys : List (List AV)} (h : rk1 m st c = .dv el s ys) : c = .dv el s ys := by
  refine two_dv (X := rk0 m st) (fun c h => ?_) h
  cases c <;> simp only [rk0] at h <;> first | exact h | cases h | (repeat' split at h) <;> first | cases h | exact h

def rk (m : Nat) (st : List Row) : AV → AV
  | .fn f cs => .fn f (cs.map (rk1 m st))
  | .agg cs => .agg (cs.map (rk1 m st))
  | .tup cs => .tup (cs.map (rk1 m st))
  | v => rk1 m st v
def rkRow (m : Nat) (st : List Row) (i : Nat) (row : Row) : Row := { row with gen := if i < m then row.gen else 0, xs := row.xs.map (·.map (rk1 m st)) }

theorem Wk.regenK {n : Nat} {e : Nat → AV} {st : List Row} (hl : leafRows (st.mapIdx (rkRow k st))) : Wk k ⟨n, e, st⟩ ⟨n, fun t => rk k st (e t), st.mapIdx (rkRow k st)⟩ := fun F os a w hr => by
  let so : Nat → Own → Own := fun i o => { o with row := rkRow k st i o.row }
  let os2 := os.mapIdx so
  have hst0 : os.map Own.row = st := hr.st
  have hget : ∀ i, os2[i]? = (os[i]?).map (so i) := fun i => by simp [os2]
  have hs : ∀ {id : Nat} {o : Own}, os[id]? = some o → st[id]? = some o.row := fun {id o} ho => by rw [← hst0, List.getElem?_map, ho]; rfl
  have h0' : ∀ x v, Rep F w os x v → Rep F w os2 (rk0 k st x) v := fun x v h => by
    cases x with
    | own id g n' =>
      simp only [Rep] at h
      obtain ⟨o, ho, hle, hsh, hv⟩ := h
      simp only [rk0, hs ho]
      by_cases hk : id < k
      · rw [if_pos hk]
        simp only [Rep]
        refine ⟨so id o, by rw [hget, ho]; rfl, by simp only [so, rkRow, hk, if_true]; exact hle, hsh, fun hg => ?_⟩
        simp only [so, rkRow, hk, if_true] at hg
        obtain ⟨a1, a2⟩ := hv hg
        exact ⟨by simpa [so, rkRow] using a1, a2⟩
      · rw [if_neg hk]
        split
        · rename_i e
          obtain ⟨a1, a2⟩ := hv e
          simp only [Rep]
          exact ⟨so id o, by rw [hget, ho]; rfl, Nat.zero_le _, hsh, fun _ => ⟨by simpa [so, rkRow] using a1, a2⟩⟩
        · simp [Rep]
    | ptr id g i off =>
      simp only [Rep] at h
      obtain ⟨o, ho, hle, hsh, hv⟩ := h
      simp only [rk0, hs ho]
      by_cases hk : id < k
      · rw [if_pos hk]
        simp only [Rep]
        refine ⟨so id o, by rw [hget, ho]; rfl, by simp only [so, rkRow, hk, if_true]; exact hle, hsh, fun hg => ?_⟩
        simp only [so, rkRow, hk, if_true] at hg
        obtain ⟨a1, a2, a3⟩ := hv hg
        exact ⟨by simpa [so, rkRow] using a1, a2, a3⟩
      · rw [if_neg hk]
        split
        · rename_i e
          obtain ⟨a1, a2, a3⟩ := hv e
          simp only [Rep]
          exact ⟨so id o, by rw [hget, ho]; rfl, Nat.zero_le _, hsh, fun _ => ⟨by simpa [so, rkRow] using a1, a2, a3⟩⟩
        · simp [Rep]
    | fn f caps => simp [rk0, Rep]
    | agg cs => simp [rk0, Rep]
    | tup cs => simp [rk0, Rep]
    | _ => simp only [rk0, Rep] at h ⊢ <;> exact h
  have h1 : ∀ x v, Rep F w os x v → Rep F w os2 (rk1 k st x) v := rep_two h0'
  have hL : ∀ cs us, RepL F w os cs us → RepL F w os2 (cs.map (rk1 k st)) us := fun cs us h =>
    repL_mk (by simp [repL_length h]) fun i x u hx hu => by
      simp only [List.getElem?_map, Option.map_eq_some_iff] at hx
      obtain ⟨y, hy, rfl⟩ := hx
      obtain ⟨u', hu', hr'⟩ := repL_get h i y hy
      rw [hu'] at hu; cases hu
      exact h1 _ _ hr'
  have hb : ∀ x v, Rep F w os x v → Rep F w os2 (rk k st x) v := fun x v h => by
    cases x with
    | fn f cs => simp only [rk, Rep] at h ⊢; obtain ⟨us, e, hl⟩ := h; exact ⟨us, e, hL _ _ hl⟩
    | agg cs => simp only [rk, Rep] at h ⊢; obtain ⟨us, e, hl⟩ := h; exact ⟨us, e, hL _ _ hl⟩
    | tup cs => simp only [rk, Rep] at h ⊢; obtain ⟨us, e, hl⟩ := h; exact ⟨us, e, hL _ _ hl⟩
    | _ => exact h1 _ _ h
  have hst2 : os2.map Own.row = st.mapIdx (rkRow k st) := by
    apply List.ext_getElem?
    intro i
    have e1 : st[i]? = (os[i]?).map Own.row := by rw [← hst0, List.getElem?_map]
    rw [List.getElem?_map, hget, List.getElem?_mapIdx, e1]
    cases os[i]? <;> rfl
  refine ⟨F, os2, ⟨hst2, fun t => hb _ _ (hr.env t), hr.size, fun i o ho => ?_, fun i j oi' oj' b hi hj hbi hbj => ?_, hr.old, hr.defers⟩, ⟨rfl, rfl, rfl, Nat.le_refl _, fun _ h => h, fun _ _ => rfl, fun b _ h1 h2 => ⟨rfl, h1, fun o ho => ?_⟩, fun i o hi ho => ⟨so i o, by rw [hget, ho]; rfl, by simp [so, rkRow, hi], rfl, fun _ => ⟨rfl, rfl, by simp [so, rkRow]⟩⟩⟩⟩
  · rw [hget, Option.map_eq_some_iff] at ho
    obtain ⟨o0, ho0, rfl⟩ := ho
    have hok := hr.rows i o0 ho0
    have hm : (so i o0).row ∈ st.mapIdx (rkRow k st) := by
      rw [← hst2]
      exact List.mem_map.2 ⟨so i o0, List.mem_of_getElem? (by rw [hget, ho0]; rfl), rfl⟩
    refine ⟨hok.pos, fun x hx => ⟨?_, hl _ hm x hx⟩, fun hbn => ?_, fun b hbb => ?_, hok.mo, hok.deep.mapped (rk1 k st) (fun _ _ _ _ h => rk1_dv h) rfl rfl rfl rfl⟩
    · simp only [so, rkRow, List.mem_map] at hx
      obtain ⟨y, hy, rfl⟩ := hx
      simpa [so, rkRow] using (hok.lens y hy).1
    · obtain ⟨h1, h2⟩ := hok.none hbn
      exact ⟨by simp [so, rkRow, h1], h2⟩
    · obtain ⟨g1, cur, h2, h3, h4, h5, h6⟩ := hok.some b hbb
      refine ⟨g1, cur, h2, h3, by simpa [so, rkRow] using h4, h5, fun i' x hx j c hc => ?_⟩
      simp only [so, rkRow, List.getElem?_map, Option.map_eq_some_iff] at hx
      obtain ⟨y, hy, rfl⟩ := hx
      simp only [List.getElem?_map, Option.map_eq_some_iff] at hc
      obtain ⟨c0, hc0, rfl⟩ := hc
      obtain ⟨u, e1, e2⟩ := h6 i' y hy j c0 hc0
      exact ⟨u, e1, h1 _ _ e2⟩
  · rw [hget, Option.map_eq_some_iff] at hi hj
    obtain ⟨o1, ho1, rfl⟩ := hi
    obtain ⟨o2, ho2, rfl⟩ := hj
    exact hr.inj i j o1 o2 b ho1 ho2 hbi hbj
  · obtain ⟨i, hi⟩ := List.mem_iff_getElem?.1 ho
    rw [hget, Option.map_eq_some_iff] at hi
    obtain ⟨o0, h0, rfl⟩ := hi
    exact h2 o0 (List.mem_of_getElem? h0)

/-- Rows after that, printed: from place i on. -/
inductive KR (m : Nat) (st : List Row) : Nat → List Row → List Row → Prop
  | nil {i : Nat} : KR m st i [] []
  | deep {i g g' size : Nat} {el : TypeId} {xs : List (List AV)} {r r' : List Row} (hg : g' = if i < m then g else 0) (hp : pureRow' xs) (hl : KR m st (i + 1) r r') : KR m st i (⟨g, el, size, xs⟩ :: r) (⟨g', el, size, xs⟩ :: r')
  | raw {i g g' size : Nat} {el : TypeId} {cs cs' : List AV} {r r' : List Row} (hg : g' = if i < m then g else 0) (hc : cs.map (rk1 m st) = cs') (hp : cs'.all AV.leaf = true) (hl : KR m st (i + 1) r r') : KR m st i (⟨g, el, size, [cs]⟩ :: r) (⟨g', el, size, [cs']⟩ :: r')

theorem KR.pure {m : Nat} {st : List Row} {i g g' size : Nat} {el : TypeId} {xs : List (List AV)} {r r' : List Row} (hg : g' = if i < m then g else 0) (hp : pureRow xs) (hl : KR m st (i + 1) r r') : KR m st i (⟨g, el, size, xs⟩ :: r) (⟨g', el, size, xs⟩ :: r') := .deep hg hp.any hl

theorem rk1_simple' {m : Nat} {st : List Row} {c : AV} (h : simple' c = true) : rk1 m st c = c := by cases c <;> simp [simple', simple, rk1, two, rk0] at h ⊢
theorem rk1_simple {m : Nat} {st : List Row} {c : AV} (h : simple c = true) : rk1 m st c = c := by cases c <;> simp [simple, rk1, two, rk0] at h ⊢

theorem KR.spec {m : Nat} {st st0 : List Row} (hle : ∀ row ∈ st0, ∀ x ∈ row.xs, ∀ c ∈ x, c.kept = true) : ∀ {i : Nat} {l l' : List Row}, KR m st i l l' → (∀ row ∈ l, row ∈ st0) → l.mapIdx (fun j => rkRow m st (i + j)) = l' ∧ leafRows l'
  | _, _, _, .nil, _ => ⟨rfl, fun _ h => by cases h⟩
  | i, _, _, .deep (r := r) hg hp hl, hm => by
    obtain ⟨h1, h2⟩ := KR.spec hle hl (fun row h => hm row (List.mem_cons_of_mem _ h))
    have hlf := hle _ (hm _ (List.mem_cons_self ..))
    refine ⟨?_, ?_⟩
    · rw [List.mapIdx_cons]
      have e : (fun j => rkRow m st (i + (j + 1))) = fun j => rkRow m st (i + 1 + j) := by funext j; congr 1; omega
      rw [e, h1]
      congr 1
      subst hg
      simp only [rkRow, Nat.add_zero]
      congr 1
      refine (List.map_congr_left (g := fun x => x) fun x hx => ?_).trans (List.map_id _)
      refine (List.map_congr_left (g := fun x => x) fun c hc => ?_).trans (List.map_id _)
      exact rk1_simple' (hp x hx c hc)
    · intro row hrow
      rcases List.mem_cons.1 hrow with rfl | h
      · exact hlf
      · exact h2 row h
  | i, _, _, .raw hg hc hp hl, hm => by
    obtain ⟨h1, h2⟩ := KR.spec hle hl (fun row h => hm row (List.mem_cons_of_mem _ h))
    refine ⟨?_, ?_⟩
    · rw [List.mapIdx_cons]
      have e : (fun j => rkRow m st (i + (j + 1))) = fun j => rkRow m st (i + 1 + j) := by funext j; congr 1; omega
      rw [e, h1]
      subst hg
      simp only [rkRow, Nat.add_zero, List.map_cons, List.map_nil, hc]
    · intro row hrow
      rcases List.mem_cons.1 hrow with rfl | h
      · intro x hx c hcx
        simp only [List.mem_singleton] at hx
        subst hx
        exact AV.kept_leaf (List.all_eq_true.1 hp c hcx)
      · exact h2 row h

theorem Wk.rk {n : Nat} {e : Nat → AV} {st st' : List Row} {L : List (Nat × AV)} (hg : KR k st 0 st st') (h : ME (fun t => Abs.rk k st (e t)) L) : Wk k ⟨n, e, st⟩ ⟨n, envL L, st'⟩ := fun F os a w hr => by
  obtain ⟨h1, h2⟩ := hg.spec (st0 := st) (rel_leaf hr) (fun _ h => h)
  simp only [Nat.zero_add] at h1
  have h3 := Wk.regenK (k := k) (n := n) (e := e) (st := st) (by rw [h1]; exact h2)
  rw [h1] at h3
  exact (h3.trans (Wk.to h)) F os a w hr
end Go.Abs
