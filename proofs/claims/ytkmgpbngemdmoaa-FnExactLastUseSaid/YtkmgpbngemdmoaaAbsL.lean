import Derived.Test.YtkmgpbngemdmoaaAbsK
namespace Go.Abs
open Go

variable {P : Program} {F : Nat → Prop} {os : List Own} {s : St} {a : Act} {w : World} {k : Nat}

/-! ### A row becomes a value -/

def frz1 (id g : Nat) (xs : List (List AV)) : AV → AV
  | .own id' g' n => if id' = id ∧ g' = g then .sl (xs.take n) else .own id' g' n
  | v => v

def frz (id g : Nat) (xs : List (List AV)) : AV → AV
  | .agg cs => .agg (cs.map (frz1 id g xs))
  | .tup cs => .tup (cs.map (frz1 id g xs))
  | v => frz1 id g xs v

def pureRow (xs : List (List AV)) : Prop := ∀ x ∈ xs, ∀ c ∈ x, simple c = true

theorem Wk.freeze {id : Nat} {row : Row} (hid : k ≤ id) (hrow : s.st[id]? = some row) (hp : pureRow row.xs) :
    Wk k s ⟨s.n, fun t => frz id row.gen row.xs (s.env t), s.st.set id { row with gen := row.gen + 1, xs := [] }⟩ := fun F os a w hr => by
  obtain ⟨o, ho, rfl⟩ := hr.row hrow
  have hok := hr.rows id o ho
  -- what is frozen: what was, and the row's block
  refine ⟨fun b => F b ∨ o.blk = some b, os.set id ⟨{ o.row with gen := o.row.gen + 1, xs := [] }, none, 0⟩, ?_, ?_⟩
  case refine_2 =>
    refine ⟨rfl, rfl, rfl, Nat.le_refl _, fun _ h => .inl h, fun _ _ => rfl, fun b _ h1 h2 => ⟨rfl, fun h => h.elim h1 (h2 o (List.mem_of_getElem? ho)), fun o' ho' => ?_⟩, fun i oi hi hoi => ⟨oi, ?_, Nat.le_refl _, rfl, fun _ => ⟨rfl, rfl, Nat.le_refl _⟩⟩⟩
    · rcases List.mem_or_eq_of_mem_set ho' with h | rfl
      · exact h2 o' h
      · simp
    · rw [List.getElem?_set_ne (by omega)]; exact hoi
  have hF : ∀ b, F b → (fun b => F b ∨ o.blk = some b) b := fun _ h => .inl h
  have hos : HosLe os (os.set id ⟨{ o.row with gen := o.row.gen + 1, xs := [] }, none, 0⟩) := HosLe.set ho (by simp) rfl (fun e => by simp at e)
  have hmono : ∀ x v, Rep F w os x v → Rep (fun b => F b ∨ o.blk = some b) w (os.set id ⟨{ o.row with gen := o.row.gen + 1, xs := [] }, none, 0⟩) x v := fun x v h =>
    rep_mono hF (fun _ _ => rfl) os _ hos x v h
  have hcell : ∀ x ∈ o.row.xs, ∀ c ∈ x, ∀ u, Rep F w os c u → Rep (fun b => F b ∨ o.blk = some b) w [] c u := fun x hx c hc u hu =>
    rep_mono hF (fun _ _ => rfl) [] [] (by simp) c u (rep_simple (hp x hx c hc) [] hu)
  have h1 : ∀ x v, Rep F w os x v → Rep (fun b => F b ∨ o.blk = some b) w (os.set id ⟨{ o.row with gen := o.row.gen + 1, xs := [] }, none, 0⟩) (frz1 id o.row.gen o.row.xs x) v := fun x v h => by
    cases x with
    | own id' g' n =>
      simp only [frz1]
      split
      · rename_i hif
        obtain ⟨rfl, rfl⟩ := hif
        simp only [Rep] at h ⊢
        obtain ⟨o', ho', _, _, h⟩ := h
        rw [ho] at ho'; cases ho'
        obtain ⟨hn, hv⟩ := h rfl
        have hlen : (o.row.xs.take n).length = n := by simp; omega
        rcases hv with ⟨hb, ad, rfl⟩ | ⟨b, hb, rfl⟩
        · have := (hok.none hb).1
          rw [this] at hn
          simp only [List.length_nil, Nat.le_zero] at hn
          subst hn
          exact ⟨ad, 0, by simp, by simp, by simp⟩
        · obtain ⟨_, cur, hcur, hsz, hle, _, hcells⟩ := hok.some b hb
          refine ⟨_, o.cap, by rw [hlen], by rw [hlen]; omega, fun _ => ⟨b, 0, o.row.size, rfl, .inr hb, fun x hx => (hok.lens x (List.mem_of_mem_take hx)).1, ?_⟩⟩
          refine repRows_mk (fun x hx => (hok.lens x (List.mem_of_mem_take hx)).1) fun i x hx => repCells_mk fun j c hc => ?_
          have hxm := List.mem_of_getElem? hx
          rw [List.getElem?_take] at hx
          split at hx
          · obtain ⟨u, e1, e2⟩ := hcells i x hx j c hc
            refine ⟨u, ?_, (hok.lens x (List.mem_of_getElem? hx)).2 c (List.mem_of_getElem? hc), hcell x (List.mem_of_getElem? hx) c (List.mem_of_getElem? hc) u e2⟩
            rw [cell_of_row w b _ cur _ _ hcur]
            simpa using e1
          · cases hx
      · exact hmono _ _ h
    | _ => exact hmono _ _ h
  have hL : ∀ xs us, RepL F w os xs us → RepL (fun b => F b ∨ o.blk = some b) w (os.set id ⟨{ o.row with gen := o.row.gen + 1, xs := [] }, none, 0⟩) (xs.map (frz1 id o.row.gen o.row.xs)) us := fun xs us h =>
    repL_mk (by simp [repL_length h]) fun i x u hx hu => by
      simp only [List.getElem?_map, Option.map_eq_some_iff] at hx
      obtain ⟨y, hy, rfl⟩ := hx
      obtain ⟨u', e1, e2⟩ := repL_get h i y hy
      rw [hu] at e1; cases e1
      exact h1 _ _ e2
  have hget : ∀ (i : Nat) (oi : Own), (os.set id ⟨{ o.row with gen := o.row.gen + 1, xs := [] }, none, 0⟩)[i]? = some oi → (i ≠ id ∧ os[i]? = some oi) ∨ (i = id ∧ oi = ⟨{ o.row with gen := o.row.gen + 1, xs := [] }, none, 0⟩) := fun i oi hi => by
    by_cases e : i = id
    · subst e; rw [List.getElem?_set_self (List.getElem?_eq_some_iff.1 ho).1, Option.some.injEq] at hi; exact .inr ⟨rfl, hi.symm⟩
    · rw [List.getElem?_set_ne (Ne.symm e)] at hi; exact .inl ⟨e, hi⟩
  refine ⟨by rw [List.map_set, hr.st], fun t => ?_, hr.size, fun i oi hi => ?_, fun i j oi oj b hi hj hbi hbj => ?_, fun b hb => ?_, hr.defers⟩
  · have := hr.env t
    simp only
    generalize s.env t = x at this ⊢
    cases x with
    | agg cs => simp only [frz, Rep] at this ⊢; obtain ⟨us, e, h⟩ := this; exact ⟨us, e, hL _ _ h⟩
    | tup cs => simp only [frz, Rep] at this ⊢; obtain ⟨us, e, h⟩ := this; exact ⟨us, e, hL _ _ h⟩
    | _ => exact h1 _ _ this
  · rcases hget i oi hi with ⟨hne, h⟩ | ⟨_, rfl⟩
    · have hoki := hr.rows i oi h
      refine ⟨hoki.pos, hoki.lens, hoki.none, fun b hb => ?_⟩
      obtain ⟨e1, cur, e2, e3, e4, e5, e6⟩ := hoki.some b hb
      refine ⟨fun hF => hF.elim e1 (fun hob => hne (hr.inj i id oi o b h ho hb hob)), cur, e2, e3, e4, e5, fun i' x hx j c hc => ?_⟩
      obtain ⟨u, f1, f2⟩ := e6 i' x hx j c hc
      exact ⟨u, f1, hmono _ _ f2⟩
    · exact ⟨hok.pos, by simp, by simp, by simp⟩
  · rcases hget i oi hi with ⟨hne, h⟩ | ⟨h, rfl⟩ <;> rcases hget j oj hj with ⟨hne', h'⟩ | ⟨h', rfl⟩
    · exact hr.inj i j oi oj b h h' hbi hbj
    · simp at hbj
    · simp at hbi
    · omega
  · rcases hb with hb | hb
    · exact hr.old b hb
    · obtain ⟨_, cur, hcur, _⟩ := hok.some b hb
      exact (Array.getElem?_eq_some_iff.1 hcur).1

/-! ### Calls -/

def shift1 (m : Nat) : AV → AV
  | .own id g n => .own (id + m) g n
  | .ptr id g i off => .ptr (id + m) g i off
  | .fn .. | .agg _ | .tup _ => .junk
  | v => v

def shift (m : Nat) : AV → AV
  | .fn f cs => .fn f (cs.map (shift1 m))
  | .agg cs => .agg (cs.map (shift1 m))
  | .tup cs => .tup (cs.map (shift1 m))
  | v => shift1 m v

theorem rep_shift1 {os1 : List Own} {x : AV} {v : Value} (h : Rep F w os1 x v) : Rep F w (os ++ os1) (shift1 os.length x) v := by
  have hget : ∀ id, (os ++ os1)[id + os.length]? = os1[id]? := fun id => by rw [List.getElem?_append_right (by omega)]; congr 1; omega
  cases x with
  | own id g n => simp only [shift1, Rep] at h ⊢; rw [hget]; exact h
  | ptr id g i off => simp only [shift1, Rep] at h ⊢; rw [hget]; exact h
  | fn f cs => simp [shift1, Rep]
  | agg cs => simp [shift1, Rep]
  | tup cs => simp [shift1, Rep]
  | _ => simp only [shift1, Rep] at h ⊢ <;> exact h

theorem repL_shift1 {os1 : List Own} {xs : List AV} {us : List Value} (h : RepL F w os1 xs us) : RepL F w (os ++ os1) (xs.map (shift1 os.length)) us :=
  repL_mk (by simp [repL_length h]) fun i x u hx hu => by
    simp only [List.getElem?_map, Option.map_eq_some_iff] at hx
    obtain ⟨y, hy, rfl⟩ := hx
    obtain ⟨u', e1, e2⟩ := repL_get h i y hy
    rw [hu] at e1; cases e1
    exact rep_shift1 e2

theorem rep_shift {os1 : List Own} {x : AV} {v : Value} (h : Rep F w os1 x v) : Rep F w (os ++ os1) (shift os.length x) v := by
  cases x with
  | fn f cs => simp only [shift, Rep] at h ⊢; obtain ⟨us, e, hl⟩ := h; exact ⟨us, e, repL_shift1 hl⟩
  | agg cs => simp only [shift, Rep] at h ⊢; obtain ⟨us, e, hl⟩ := h; exact ⟨us, e, repL_shift1 hl⟩
  | tup cs => simp only [shift, Rep] at h ⊢; obtain ⟨us, e, hl⟩ := h; exact ⟨us, e, repL_shift1 hl⟩
  | _ => exact rep_shift1 h

/-- A value that leans on no memory but rows. -/
def scal1 : AV → Bool
  | .sl _ | .iptr .. | .fn .. | .agg _ | .tup _ => false
  | _ => true

def scal : AV → Bool
  | .tup cs | .agg cs => cs.all scal1
  | v => scal1 v

theorem rep_scal1 {F' : Nat → Prop} {x : AV} {v : Value} (hx : scal1 x = true) (h : Rep F w os x v) : Rep F' w os x v := by
  cases x <;> simp only [scal1, Bool.false_eq_true] at hx <;> simp only [Rep] at h ⊢ <;> exact h

theorem rep_scal {F' : Nat → Prop} {x : AV} {v : Value} (hx : scal x = true) (h : Rep F w os x v) : Rep F' w os x v := by
  have hL : ∀ cs us, cs.all scal1 = true → RepL F w os cs us → RepL F' w os cs us := fun cs us hc hl =>
    repL_mk (repL_length hl) fun i x u hx hu => by
      obtain ⟨u', e1, e2⟩ := repL_get hl i x hx
      rw [hu] at e1; cases e1
      exact rep_scal1 (List.all_eq_true.1 hc x (List.mem_of_getElem? hx)) e2
  cases x with
  | agg cs => simp only [Rep] at h ⊢; obtain ⟨us, e, hl⟩ := h; exact ⟨us, e, hL cs us hx hl⟩
  | tup cs => simp only [Rep] at h ⊢; obtain ⟨us, e, hl⟩ := h; exact ⟨us, e, hL cs us hx hl⟩
  | _ => exact rep_scal1 hx h

/-- The callee's rows behind the caller's. -/
theorem Rel.join {F0 F' : Nat → Prop} {w' : World} {os1 : List Own} {st1 : List Row} (hr : Rel F0 os s a w') (hs : StoreOK F' os1 st1 w') (hFF : ∀ b, F0 b → F' b) (hp : ∀ row ∈ st1, pureRow row.xs)
    (hscal : (∀ b, F' b → F0 b) ∨ ∀ row ∈ st1, ∀ x ∈ row.xs, ∀ c ∈ x, scal1 c = true) (hdis : ∀ (i : Nat) (o : Own), os[i]? = some o → ∀ b, o.blk = some b → ∀ o1 : Own, o1 ∈ os1 → o1.blk ≠ some b) :
    Rel F0 (os ++ os1) { s with st := s.st ++ st1 } a w' := by
  have hos : HosLe os (os ++ os1) := HosLe.append os os1
  have hmono : ∀ x v, Rep F0 w' os x v → Rep F0 w' (os ++ os1) x v := fun x v h => rep_mono (fun _ h => h) (fun _ _ => rfl) os _ hos x v h
  have hget : ∀ (i : Nat) (o : Own), (os ++ os1)[i]? = some o → (i < os.length ∧ os[i]? = some o) ∨ (os.length ≤ i ∧ os1[i - os.length]? = some o) := fun i o h => by
    by_cases hi : i < os.length
    · rw [List.getElem?_append_left hi] at h; exact .inl ⟨hi, h⟩
    · rw [List.getElem?_append_right (by omega)] at h; exact .inr ⟨by omega, h⟩
  refine ⟨by rw [List.map_append, hr.st, hs.st], fun t => hmono _ _ (hr.env t), hr.size, fun i o ho => ?_, fun i j oi oj b hi hj hbi hbj => ?_, hr.old, hr.defers⟩
  · rcases hget i o ho with ⟨_, h⟩ | ⟨_, h⟩
    · have hok := hr.rows i o h
      refine ⟨hok.pos, hok.lens, hok.none, fun b hb => ?_⟩
      obtain ⟨e1, cur, e2, e3, e4, e5, e6⟩ := hok.some b hb
      exact ⟨e1, cur, e2, e3, e4, e5, fun i' x hx j c hc => by obtain ⟨u, f1, f2⟩ := e6 i' x hx j c hc; exact ⟨u, f1, hmono _ _ f2⟩⟩
    · have hok := hs.rows _ o h
      refine ⟨hok.pos, hok.lens, hok.none, fun b hb => ?_⟩
      obtain ⟨e1, cur, e2, e3, e4, e5, e6⟩ := hok.some b hb
      refine ⟨fun hF => e1 (hFF b hF), cur, e2, e3, e4, e5, fun i' x hx j c hc => ?_⟩
      obtain ⟨u, f1, f2⟩ := e6 i' x hx j c hc
      have hrow : o.row ∈ st1 := by rw [← hs.st]; exact List.mem_map.2 ⟨o, List.mem_of_getElem? h, rfl⟩
      have hsim := hp o.row hrow x (List.mem_of_getElem? hx) c (List.mem_of_getElem? hc)
      have f3 := rep_simple hsim (os ++ os1) f2
      refine ⟨u, f1, ?_⟩
      rcases hscal with h1 | h1
      · exact rep_mono h1 (fun _ _ => rfl) _ _ (HosLe.refl _) c u f3
      · exact rep_scal1 (h1 o.row hrow x (List.mem_of_getElem? hx) c (List.mem_of_getElem? hc)) f3
  · rcases hget i oi hi with ⟨_, h⟩ | ⟨_, h⟩ <;> rcases hget j oj hj with ⟨_, h'⟩ | ⟨_, h'⟩
    · exact hr.inj i j oi oj b h h' hbi hbj
    · exact absurd hbj (hdis i oi h b hbi oj (List.mem_of_getElem? h'))
    · exact absurd hbi (hdis j oj h' b hbj oi (List.mem_of_getElem? h))
    · have := hs.inj _ _ oi oj b h h' hbi hbj; omega

/-- A call of a function that takes values and hands back a value, perhaps with rows of its own. -/
theorem callThen_pure {f : FuncId} {args : List AV} {d : Option Tmp} {K : St → Prop} {R : AV → List Row → Prop} (h : ACalls P f args [] R) (hf : args.all flat = true)
    (hK : ∀ r st', R r st' → (∀ row ∈ st', pureRow row.xs) ∧ K ({ s with st := s.st ++ st' }.put d (shift s.st.length r))) : callThen P k s f args d K := by
  intro F os a w vs hr hl
  refine (h F [] w vs (StoreOK.nil hr.old) (repL_flat hf [] hl)).mono ?_
  rintro e w' ⟨u, r, st', F', os1, rfl, hR, hs, hru, he⟩
  obtain ⟨hp, hk⟩ := hK r st' hR
  obtain ⟨h1, h2, _, hdis⟩ := hr.after (k := k) he hs.old
  refine ⟨u, _, s.st ++ st', F', os ++ os1, rfl, hk, h1.join hs (fun _ h => h) hp (.inl fun _ h => h) hdis, ?_, ?_⟩
  · rw [hr.len]; exact rep_shift hru
  · refine ⟨h2.sys, h2.tape, h2.output, h2.size, h2.fsub, h2.fsame, fun b hb e1 e2 => ?_, fun i o hi ho => ?_⟩
    · obtain ⟨f1, f2, f3⟩ := he.other b hb e1 (by simp)
      exact ⟨f1, f2, fun o ho => by rcases List.mem_append.1 ho with h | h; exact e2 o h; exact f3 o h⟩
    · exact HosLe.append os os1 i o ho

def borrow1 (st : List Row) : AV → AV
  | .own id g n => match st[id]? with
    | some row => if row.gen = g then .sl (row.xs.take n) else .junk
    | none => .junk
  | v => v

/-- The same where rows of the caller's are handed over to be read; what comes back leans on none of them. -/
theorem callThen_borrow {f : FuncId} {args : List AV} {d : Option Tmp} {K : St → Prop} {R : AV → List Row → Prop} (h : ACalls P f (args.map (borrow1 s.st)) [] R) (hf : (args.map (borrow1 s.st)).all flat = true)
    (hpure : ∀ x ∈ args, match x with | .own id _ _ => ∀ row, s.st[id]? = some row → pureRow row.xs | _ => True)
    (hK : ∀ r st', R r st' → (scal r = true ∧ ∀ row ∈ st', ∀ x ∈ row.xs, ∀ c ∈ x, scal1 c = true) ∧ (∀ row ∈ st', pureRow row.xs) ∧ K ({ s with st := s.st ++ st' }.put d (shift s.st.length r))) : callThen P k s f args d K := by
  intro F os a w vs hr hl
  -- for the call, the rows are frozen
  let F1 : Nat → Prop := fun b => F b ∨ ∃ id g n o, AV.own id g n ∈ args ∧ os[id]? = some o ∧ o.blk = some b
  have hF1 : ∀ b, F b → F1 b := fun _ h => .inl h
  have hlt : ∀ (i : Nat) (o : Own) b, os[i]? = some o → o.blk = some b → b < w.heap.size := fun i o b hi hb => by
    obtain ⟨_, cur, hcur, _⟩ := (hr.rows i o hi).some b hb
    exact (Array.getElem?_eq_some_iff.1 hcur).1
  have hold1 : ∀ b, F1 b → b < w.heap.size := fun b hb => by
    rcases hb with hb | ⟨id, g, n, o, _, ho, hob⟩
    · exact hr.old b hb
    · exact hlt id o b ho hob
  have hargs : RepL F1 w os (args.map (borrow1 s.st)) vs := repL_mk (by simp [repL_length hl]) fun i x u hx hu => by
    simp only [List.getElem?_map, Option.map_eq_some_iff] at hx
    obtain ⟨y, hy, rfl⟩ := hx
    obtain ⟨u', e1, e2⟩ := repL_get hl i y hy
    rw [hu] at e1; cases e1
    have hm : ∀ x v, Rep F w os x v → Rep F1 w os x v := fun x v h => rep_mono hF1 (fun _ _ => rfl) os os (HosLe.refl os) x v h
    cases y with
    | own id g n =>
      simp only [borrow1]
      split
      · rename_i row hrow
        split
        · rename_i hg
          obtain ⟨o, ho, rfl⟩ := hr.row hrow
          have hok := hr.rows id o ho
          have hpr := hpure _ (List.mem_of_getElem? hy) o.row hrow
          simp only [Rep] at e2 ⊢
          obtain ⟨o', ho', _, _, e2⟩ := e2
          rw [ho] at ho'; cases ho'
          obtain ⟨hn, hv⟩ := e2 hg
          have hlen : (o.row.xs.take n).length = n := by simp; omega
          rcases hv with ⟨hb, ad, rfl⟩ | ⟨b, hb, rfl⟩
          · have := (hok.none hb).1
            rw [this] at hn
            simp only [List.length_nil, Nat.le_zero] at hn
            subst hn
            exact ⟨ad, 0, by simp, by simp, by simp⟩
          · obtain ⟨_, cur, hcur, hsz, hle, _, hcells⟩ := hok.some b hb
            refine ⟨_, o.cap, by rw [hlen], by rw [hlen]; omega, fun _ => ⟨b, 0, o.row.size, rfl, .inr ⟨id, g, n, o, List.mem_of_getElem? hy, ho, hb⟩, fun x hx => (hok.lens x (List.mem_of_mem_take hx)).1, ?_⟩⟩
            refine repRows_mk (fun x hx => (hok.lens x (List.mem_of_mem_take hx)).1) fun i x hx => repCells_mk fun j c hc => ?_
            rw [List.getElem?_take] at hx
            split at hx
            · obtain ⟨u, f1, f2⟩ := hcells i x hx j c hc
              refine ⟨u, ?_, (hok.lens x (List.mem_of_getElem? hx)).2 c (List.mem_of_getElem? hc), rep_simple (hpr x (List.mem_of_getElem? hx) c (List.mem_of_getElem? hc)) [] (hm _ _ f2)⟩
              rw [cell_of_row w b _ cur _ _ hcur]
              simpa using f1
            · cases hx
        · simp [Rep]
      · simp [Rep]
    | _ => exact hm _ _ e2
  refine (h F1 [] w vs (StoreOK.nil hold1) (repL_flat hf [] hargs)).mono ?_
  rintro e w' ⟨u, r, st', F', os1, rfl, hR, hs, hru, he⟩
  obtain ⟨⟨hsr, hsc⟩, hp, hk⟩ := hK r st' hR
  -- the caller's own rows afterwards
  have hrow : ∀ (i : Nat) (o : Own), os[i]? = some o → ∀ b, o.blk = some b → w'.heap[b]? = w.heap[b]? ∧ ∀ o1 : Own, o1 ∈ os1 → o1.blk ≠ some b := fun i o ho b hb => by
    have hnF := ((hr.rows i o ho).some b hb).1
    by_cases h1 : F1 b
    · refine ⟨he.fsame b h1, fun o1 ho1 e => ?_⟩
      obtain ⟨j, hj⟩ := List.mem_iff_getElem?.1 ho1
      exact ((hs.rows j o1 hj).some b e).1 (he.fsub b h1)
    · obtain ⟨f1, _, f3⟩ := he.other b (hlt i o b ho hb) h1 (by simp)
      exact ⟨f1, f3⟩
  have hmono : ∀ x v, Rep F w os x v → Rep F w' os x v := fun x v h => rep_mono (fun _ h => h) (fun b hb => he.fsame b (hF1 b hb)) os os (HosLe.refl os) x v h
  have hr' : Rel F os s a w' := ⟨hr.st, fun t => hmono _ _ (hr.env t), hr.size, fun i o ho => by
      have hok := hr.rows i o ho
      refine ⟨hok.pos, hok.lens, hok.none, fun b hb => ?_⟩
      obtain ⟨e1, cur, e2, e3, e4, e5, e6⟩ := hok.some b hb
      exact ⟨e1, cur, by rw [(hrow i o ho b hb).1]; exact e2, e3, e4, e5, fun i' x hx j c hc => by obtain ⟨u, f1, f2⟩ := e6 i' x hx j c hc; exact ⟨u, f1, hmono _ _ f2⟩⟩,
    hr.inj, fun b hb => Nat.lt_of_lt_of_le (hr.old b hb) he.size, hr.defers⟩
  refine ⟨u, _, s.st ++ st', F, os ++ os1, rfl, hk, hr'.join hs (fun b hb => he.fsub b (hF1 b hb)) hp (.inr hsc) (fun i o ho b hb => (hrow i o ho b hb).2), ?_, ?_⟩
  · rw [hr.len]; exact rep_shift (rep_scal hsr hru)
  · refine ⟨he.sys, he.tape, he.output, he.size, fun _ h => h, fun b hb => he.fsame b (hF1 b hb), fun b hb e1 e2 => ?_, fun i o hi ho => HosLe.append os os1 i o ho⟩
    have hnF1 : ¬ F1 b := fun h => h.elim e1 (fun ⟨id, g, n, o, _, ho, hob⟩ => e2 o (List.mem_of_getElem? ho) hob)
    obtain ⟨f1, _, f3⟩ := he.other b hb hnF1 (by simp)
    exact ⟨f1, e1, fun o ho => by rcases List.mem_append.1 ho with h | h; exact e2 o h; exact f3 o h⟩

end Go.Abs
