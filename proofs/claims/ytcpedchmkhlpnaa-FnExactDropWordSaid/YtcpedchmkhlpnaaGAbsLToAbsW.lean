import Derived.Test.YtcpedchmkhlpnaaGAbsAToAbsK
namespace Go.Abs
open Go

variable {P : Program} {F : Nat → Prop} {os : List Own} {s : St} {a : Act} {w : World} {k : Nat}

/-! ### A row becomes a value -/

def frz1 (id g : Nat) (xs : List (List AV)) : AV → AV
  | .own id' g' n => if id' = id ∧ g' = g then .sl (xs.take n) else .own id' g' n
  | v => v

def frz (id g : Nat) (xs : List (List AV)) : AV → AV
  | .agg cs => .agg (cs.map (frz1 id g xs))
  | .tup cs => .tup (cs.map (frz1 id g xs))
  | v => frz1 id g xs v

def pureRow (xs : List (List AV)) : Prop := ∀ x ∈ xs, ∀ c ∈ x, simple c = true
def pureRow' (xs : List (List AV)) : Prop := ∀ x ∈ xs, ∀ c ∈ x, simple' c = true
theorem pureRow.any {xs : List (List AV)} (h : pureRow xs) : pureRow' xs := fun x hx c hc => simple_simple' (h x hx c hc)

theorem Wk.freeze {id : Nat} {row : Row} (hid : k ≤ id) (hrow : s.st[id]? = some row) (hp : pureRow row.xs) :
    Wk k s ⟨s.n, fun t => frz id row.gen row.xs (s.env t), s.st.set id { row with gen := row.gen + 1, xs := [] }⟩ := fun F os a w hr => by
  obtain ⟨o, ho, rfl⟩ := hr.row hrow
  have hok := hr.rows id o ho
  -- what is frozen: what was, and the row's block
  have hfl : ∀ x ∈ o.row.xs, ∀ c ∈ x, c.leaf = true := fun x hx c hc => by
    have h1 := hp x hx c hc
    have h2 := (hok.lens x hx).2 c hc
    cases c <;> simp_all [simple, AV.leaf, AV.kept]
  refine ⟨fun b => F b ∨ o.blk = some b, os.set id ⟨{ o.row with gen := o.row.gen + 1, xs := [] }, none, 0, o.more⟩, ?_, ?_⟩
  case refine_2 =>
    refine ⟨rfl, rfl, rfl, Nat.le_refl _, fun _ h => .inl h, fun _ _ => rfl, fun b _ h1 h2 => ⟨rfl, fun h => h.elim h1 (fun e => h2 o (List.mem_of_getElem? ho) (.inl e)), fun o' ho' => ?_⟩, fun i oi hi hoi => ⟨oi, ?_, Nat.le_refl _, rfl, fun _ => ⟨rfl, rfl, rfl⟩⟩⟩
    · rcases List.mem_or_eq_of_mem_set ho' with h | rfl
      · exact h2 o' h
      · intro hh
        rcases hh with hh | hh
        · simp at hh
        · exact h2 o (List.mem_of_getElem? ho) (.inr hh)
    · rw [List.getElem?_set_ne (by omega)]; exact hoi
  have hF : ∀ b, F b → (fun b => F b ∨ o.blk = some b) b := fun _ h => .inl h
  have hos : HosLe os (os.set id ⟨{ o.row with gen := o.row.gen + 1, xs := [] }, none, 0, o.more⟩) := HosLe.set ho (by simp) rfl (fun e => by simp at e)
  have hmono : ∀ x v, Rep F w os x v → Rep (fun b => F b ∨ o.blk = some b) w (os.set id ⟨{ o.row with gen := o.row.gen + 1, xs := [] }, none, 0, o.more⟩) x v := fun x v h =>
    rep_mono hF (fun _ _ => rfl) os _ hos x v h
  have hcell : ∀ x ∈ o.row.xs, ∀ c ∈ x, ∀ u, Rep F w os c u → Rep (fun b => F b ∨ o.blk = some b) w [] c u := fun x hx c hc u hu =>
    rep_mono hF (fun _ _ => rfl) [] [] (by simp) c u (rep_simple (hp x hx c hc) [] hu)
  have h1 : ∀ x v, Rep F w os x v → Rep (fun b => F b ∨ o.blk = some b) w (os.set id ⟨{ o.row with gen := o.row.gen + 1, xs := [] }, none, 0, o.more⟩) (frz1 id o.row.gen o.row.xs x) v := fun x v h => by
    cases x with
    | own id' g' n =>
      simp only [frz1]
      split
      · rename_i hif
        obtain ⟨rfl, rfl⟩ := hif
        simp only [Rep] at h ⊢
        obtain ⟨o', ho', _, _, h⟩ := h
        rw [ho] at ho'; cases ho'
        obtain ⟨hn, hv⟩ := h rfl
        have hlen : (o.row.xs.take n).length = n := by simp; omega
        rcases hv with ⟨hb, ad, rfl⟩ | ⟨b, hb, rfl⟩
        · have := (hok.none hb).1
          rw [this] at hn
          simp only [List.length_nil, Nat.le_zero] at hn
          subst hn
          exact ⟨ad, 0, by simp, by simp, by simp⟩
        · obtain ⟨_, cur, hcur, hsz, hle, _, hcells⟩ := hok.some b hb
          refine ⟨_, o.cap, by rw [hlen], by rw [hlen]; omega, fun _ => ⟨b, 0, o.row.size, rfl, .inr hb, fun x hx => (hok.lens x (List.mem_of_mem_take hx)).1, ?_⟩⟩
          refine repRows_mk (fun x hx => (hok.lens x (List.mem_of_mem_take hx)).1) fun i x hx => repCells_mk fun j c hc => ?_
          have hxm := List.mem_of_getElem? hx
          rw [List.getElem?_take] at hx
          split at hx
          · obtain ⟨u, e1, e2⟩ := hcells i x hx j c hc
            refine ⟨u, ?_, hfl x (List.mem_of_getElem? hx) c (List.mem_of_getElem? hc), hcell x (List.mem_of_getElem? hx) c (List.mem_of_getElem? hc) u e2⟩
            rw [cell_of_row w b _ cur _ _ hcur]
            simpa using e1
          · cases hx
      · exact hmono _ _ h
    | _ => exact hmono _ _ h
  have hL : ∀ xs us, RepL F w os xs us → RepL (fun b => F b ∨ o.blk = some b) w (os.set id ⟨{ o.row with gen := o.row.gen + 1, xs := [] }, none, 0, o.more⟩) (xs.map (frz1 id o.row.gen o.row.xs)) us := fun xs us h =>
    repL_mk (by simp [repL_length h]) fun i x u hx hu => by
      simp only [List.getElem?_map, Option.map_eq_some_iff] at hx
      obtain ⟨y, hy, rfl⟩ := hx
      obtain ⟨u', e1, e2⟩ := repL_get h i y hy
      rw [hu] at e1; cases e1
      exact h1 _ _ e2
  have hget : ∀ (i : Nat) (oi : Own), (os.set id ⟨{ o.row with gen := o.row.gen + 1, xs := [] }, none, 0, o.more⟩)[i]? = some oi → (i ≠ id ∧ os[i]? = some oi) ∨ (i = id ∧ oi = ⟨{ o.row with gen := o.row.gen + 1, xs := [] }, none, 0, o.more⟩) := fun i oi hi => by
    by_cases e : i = id
    · subst e; rw [List.getElem?_set_self (List.getElem?_eq_some_iff.1 ho).1, Option.some.injEq] at hi; exact .inr ⟨rfl, hi.symm⟩
    · rw [List.getElem?_set_ne (Ne.symm e)] at hi; exact .inl ⟨e, hi⟩
  refine ⟨by rw [List.map_set, hr.st], fun t => ?_, hr.size, fun i oi hi => ?_, fun i j oi oj b hi hj hbi hbj => ?_, fun b hb => ?_, hr.defers⟩
  · have := hr.env t
    simp only
    generalize s.env t = x at this ⊢
    cases x with
    | agg cs => simp only [frz, Rep] at this ⊢; obtain ⟨us, e, h⟩ := this; exact ⟨us, e, hL _ _ h⟩
    | tup cs => simp only [frz, Rep] at this ⊢; obtain ⟨us, e, h⟩ := this; exact ⟨us, e, hL _ _ h⟩
    | _ => exact h1 _ _ this
  · rcases hget i oi hi with ⟨hne, h⟩ | ⟨_, rfl⟩
    · have hoki := hr.rows i oi h
      refine ⟨hoki.pos, hoki.lens, hoki.none, fun b hb => ?_, fun b hb => ⟨fun hF => hF.elim (hoki.mo b hb).1 (fun hob => hne (hr.inj i id oi o b h ho (.inr hb) (.inl hob))), (hoki.mo b hb).2⟩, hoki.deep⟩
      obtain ⟨e1, cur, e2, e3, e4, e5, e6⟩ := hoki.some b hb
      refine ⟨fun hF => hF.elim e1 (fun hob => hne (hr.inj i id oi o b h ho (.inl hb) (.inl hob))), cur, e2, e3, e4, e5, fun i' x hx j c hc => ?_⟩
      obtain ⟨u, f1, f2⟩ := e6 i' x hx j c hc
      exact ⟨u, f1, hmono _ _ f2⟩
    · exact ⟨hok.pos, by simp, by simp, by simp, fun b hb => ⟨fun hF => hF.elim (hok.mo b hb).1 (hok.mo b hb).2.2, (hok.mo b hb).2.1, by simp⟩, DeepOK.flat (by simp)⟩
  · rcases hget i oi hi with ⟨hne, h⟩ | ⟨h, rfl⟩ <;> rcases hget j oj hj with ⟨hne', h'⟩ | ⟨h', rfl⟩
    · exact hr.inj i j oi oj b h h' hbi hbj
    · exact hr.inj i j oi o b h (h' ▸ ho) hbi (hbj.elim (fun e => by simp at e) .inr)
    · exact hr.inj i j o oj b (h ▸ ho) h' (hbi.elim (fun e => by simp at e) .inr) hbj
    · omega
  · rcases hb with hb | hb
    · exact hr.old b hb
    · obtain ⟨_, cur, hcur, _⟩ := hok.some b hb
      exact (Array.getElem?_eq_some_iff.1 hcur).1

/-! ### Calls -/

def shift1 (m : Nat) : AV → AV
  | .own id g n => .own (id + m) g n
  | .ptr id g i off => .ptr (id + m) g i off
  | .fn .. | .agg _ | .tup _ => .junk
  | v => v

def shift (m : Nat) : AV → AV
  | .fn f cs => .fn f (cs.map (shift1 m))
  | .agg cs => .agg (cs.map (shift1 m))
  | .tup cs => .tup (cs.map (shift1 m))
  | v => shift1 m v

theorem rep_shift1 {os1 : List Own} {x : AV} {v : Value} (h : Rep F w os1 x v) : Rep F w (os ++ os1) (shift1 os.length x) v := by
  have hget : ∀ id, (os ++ os1)[id + os.length]? = os1[id]? := fun id => by rw [List.getElem?_append_right (by omega)]; congr 1; omega
  cases x with
  | own id g n => simp only [shift1, Rep] at h ⊢; rw [hget]; exact h
  | ptr id g i off => simp only [shift1, Rep] at h ⊢; rw [hget]; exact h
  | fn f cs => simp [shift1, Rep]
  | agg cs => simp [shift1, Rep]
  | tup cs => simp [shift1, Rep]
  | _ => simp only [shift1, Rep] at h ⊢ <;> exact h

theorem repL_shift1 {os1 : List Own} {xs : List AV} {us : List Value} (h : RepL F w os1 xs us) : RepL F w (os ++ os1) (xs.map (shift1 os.length)) us :=
  repL_mk (by simp [repL_length h]) fun i x u hx hu => by
    simp only [List.getElem?_map, Option.map_eq_some_iff] at hx
    obtain ⟨y, hy, rfl⟩ := hx
    obtain ⟨u', e1, e2⟩ := repL_get h i y hy
    rw [hu] at e1; cases e1
    exact rep_shift1 e2

theorem rep_shift {os1 : List Own} {x : AV} {v : Value} (h : Rep F w os1 x v) : Rep F w (os ++ os1) (shift os.length x) v := by
  cases x with
  | fn f cs => simp only [shift, Rep] at h ⊢; obtain ⟨us, e, hl⟩ := h; exact ⟨us, e, repL_shift1 hl⟩
  | agg cs => simp only [shift, Rep] at h ⊢; obtain ⟨us, e, hl⟩ := h; exact ⟨us, e, repL_shift1 hl⟩
  | tup cs => simp only [shift, Rep] at h ⊢; obtain ⟨us, e, hl⟩ := h; exact ⟨us, e, repL_shift1 hl⟩
  | _ => exact rep_shift1 h

/-- A value that leans on no memory but rows. -/
def scal1 : AV → Bool
  | .sl _ | .iptr .. | .fn .. | .agg _ | .tup _ => false
  | _ => true

def scal : AV → Bool
  | .tup cs | .agg cs => cs.all scal1
  | v => scal1 v

theorem rep_scal1 {F' : Nat → Prop} {x : AV} {v : Value} (hx : scal1 x = true) (h : Rep F w os x v) : Rep F' w os x v := by
  cases x <;> simp only [scal1, Bool.false_eq_true] at hx <;> simp only [Rep] at h ⊢ <;> exact h

theorem rep_scal {F' : Nat → Prop} {x : AV} {v : Value} (hx : scal x = true) (h : Rep F w os x v) : Rep F' w os x v := by
  have hL : ∀ cs us, cs.all scal1 = true → RepL F w os cs us → RepL F' w os cs us := fun cs us hc hl =>
    repL_mk (repL_length hl) fun i x u hx hu => by
      obtain ⟨u', e1, e2⟩ := repL_get hl i x hx
      rw [hu] at e1; cases e1
      exact rep_scal1 (List.all_eq_true.1 hc x (List.mem_of_getElem? hx)) e2
  cases x with
  | agg cs => simp only [Rep] at h ⊢; obtain ⟨us, e, hl⟩ := h; exact ⟨us, e, hL cs us hx hl⟩
  | tup cs => simp only [Rep] at h ⊢; obtain ⟨us, e, hl⟩ := h; exact ⟨us, e, hL cs us hx hl⟩
  | _ => exact rep_scal1 hx h

/-- The callee's rows behind the caller's. -/
theorem Rel.join {F0 F' : Nat → Prop} {w' : World} {os1 : List Own} {st1 : List Row} (hr : Rel F0 os s a w') (hs : StoreOK F' os1 st1 w') (hFF : ∀ b, F0 b → F' b) (hp : ∀ row ∈ st1, pureRow' row.xs)
    (hscal : (∀ b, F' b → F0 b) ∨ ∀ row ∈ st1, ∀ x ∈ row.xs, ∀ c ∈ x, scal1 c = true) (hdis : ∀ (i : Nat) (o : Own), os[i]? = some o → ∀ b, o.owns b → ∀ o1 : Own, o1 ∈ os1 → ¬ o1.owns b) :
    Rel F0 (os ++ os1) { s with st := s.st ++ st1 } a w' := by
  have hos : HosLe os (os ++ os1) := HosLe.append os os1
  have hmono : ∀ x v, Rep F0 w' os x v → Rep F0 w' (os ++ os1) x v := fun x v h => rep_mono (fun _ h => h) (fun _ _ => rfl) os _ hos x v h
  have hget : ∀ (i : Nat) (o : Own), (os ++ os1)[i]? = some o → (i < os.length ∧ os[i]? = some o) ∨ (os.length ≤ i ∧ os1[i - os.length]? = some o) := fun i o h => by
    by_cases hi : i < os.length
    · rw [List.getElem?_append_left hi] at h; exact .inl ⟨hi, h⟩
    · rw [List.getElem?_append_right (by omega)] at h; exact .inr ⟨by omega, h⟩
  refine ⟨by rw [List.map_append, hr.st, hs.st], fun t => hmono _ _ (hr.env t), hr.size, fun i o ho => ?_, fun i j oi oj b hi hj hbi hbj => ?_, hr.old, hr.defers⟩
  · rcases hget i o ho with ⟨_, h⟩ | ⟨_, h⟩
    · have hok := hr.rows i o h
      refine ⟨hok.pos, hok.lens, hok.none, fun b hb => ?_, hok.mo, hok.deep⟩
      obtain ⟨e1, cur, e2, e3, e4, e5, e6⟩ := hok.some b hb
      exact ⟨e1, cur, e2, e3, e4, e5, fun i' x hx j c hc => by obtain ⟨u, f1, f2⟩ := e6 i' x hx j c hc; exact ⟨u, f1, hmono _ _ f2⟩⟩
    · have hok := hs.rows _ o h
      refine ⟨hok.pos, hok.lens, hok.none, fun b hb => ?_, fun b hb => ⟨fun hF => (hok.mo b hb).1 (hFF b hF), (hok.mo b hb).2⟩, hok.deep⟩
      obtain ⟨e1, cur, e2, e3, e4, e5, e6⟩ := hok.some b hb
      refine ⟨fun hF => e1 (hFF b hF), cur, e2, e3, e4, e5, fun i' x hx j c hc => ?_⟩
      obtain ⟨u, f1, f2⟩ := e6 i' x hx j c hc
      have hrow : o.row ∈ st1 := by rw [← hs.st]; exact List.mem_map.2 ⟨o, List.mem_of_getElem? h, rfl⟩
      have hsim := hp o.row hrow x (List.mem_of_getElem? hx) c (List.mem_of_getElem? hc)
      have f3 := rep_simple' hsim (os ++ os1) f2
      refine ⟨u, f1, ?_⟩
      rcases hscal with h1 | h1
      · exact rep_mono h1 (fun _ _ => rfl) _ _ (HosLe.refl _) c u f3
      · exact rep_scal1 (h1 o.row hrow x (List.mem_of_getElem? hx) c (List.mem_of_getElem? hc)) f3
  · rcases hget i oi hi with ⟨_, h⟩ | ⟨_, h⟩ <;> rcases hget j oj hj with ⟨_, h'⟩ | ⟨_, h'⟩
    · exact hr.inj i j oi oj b h h' hbi hbj
    · exact absurd hbj (hdis i oi h b hbi oj (List.mem_of_getElem? h'))
    · exact absurd hbi (hdis j oj h' b hbj oi (List.mem_of_getElem? h))
    · have := hs.inj _ _ oi oj b h h' hbi hbj; omega

/-- A call of a function that takes values and hands back a value, perhaps with rows of its own. -/
theorem callThen_pure {f : FuncId} {args : List AV} {d : Option Tmp} {K : St → Prop} {R : AV → List Row → Prop} (h : ACalls P f args [] R) (hf : args.all flat = true)
    (hK : ∀ r st', R r st' → (∀ row ∈ st', pureRow' row.xs) ∧ K ({ s with st := s.st ++ st' }.put d (shift s.st.length r))) : callThen P k s f args d K := by
  intro F os a w vs hr hl
  refine (h F [] w vs (StoreOK.nil hr.old) (repL_flat hf [] hl)).mono ?_
  rintro e w' ⟨u, r, st', F', os1, rfl, hR, hs, hru, he⟩
  obtain ⟨hp, hk⟩ := hK r st' hR
  obtain ⟨h1, h2, _, hdis⟩ := hr.after (k := k) he hs.old
  refine ⟨u, _, s.st ++ st', F', os ++ os1, rfl, hk, h1.join hs (fun _ h => h) hp (.inl fun _ h => h) hdis, ?_, ?_⟩
  · rw [hr.len]; exact rep_shift hru
  · refine ⟨h2.sys, h2.tape, h2.output, h2.size, h2.fsub, h2.fsame, fun b hb e1 e2 => ?_, fun i o hi ho => ?_⟩
    · obtain ⟨f1, f2, f3⟩ := he.other b hb e1 (by simp)
      exact ⟨f1, f2, fun o ho => by rcases List.mem_append.1 ho with h | h; exact e2 o h; exact f3 o h⟩
    · exact HosLe.append os os1 i o ho

mutual
/-- What is handed over to be read. -/
def und : AV → AV
  | .dv _ _ xs => .sl (undR xs)
  | c => c
def undR : List (List AV) → List (List AV)
  | [] => []
  | x :: r => undC x :: undR r
def undC : List AV → List AV
  | [] => []
  | c :: r => und c :: undC r
end

theorem undC_eq : ∀ x : List AV, undC x = x.map und
  | [] => by simp [undC]
  | c :: r => by simp [undC, undC_eq r]
theorem undR_eq : ∀ xs : List (List AV), undR xs = xs.map undC
  | [] => by simp [undR]
  | x :: r => by simp [undR, undR_eq r]
theorem und_simple {c : AV} (h : simple c = true) : und c = c := by cases c <;> simp_all [simple, und]
theorem undR_pure {xs : List (List AV)} (h : pureRow xs) : undR xs = xs := by
  rw [undR_eq]
  refine (List.map_congr_left (g := id) fun x hx => ?_).trans (List.map_id _)
  rw [undC_eq]
  exact (List.map_congr_left (g := id) fun c hc => und_simple (h x hx c hc)).trans (List.map_id _)

mutual
theorem repD_und {S F : Nat → Prop} {w : World} (hS : ∀ b, S b → F b) : ∀ (x : AV) (v : Value), RepD S w x v → Rep F w [] (und x) v ∧ (und x).leaf = true
  | .dv el size xs, v, h => by
    simp only [RepD] at h
    obtain ⟨hp, h⟩ := h
    simp only [und, Rep, AV.leaf, and_true]
    rcases h with ⟨rfl, a, rfl⟩ | ⟨b, cap, cur, rfl, h2, h3, h4, h5, h6, h7, h8⟩
    · exact ⟨a, 0, by simp [undR], by simp [undR], by simp [undR]⟩
    · refine ⟨_, cap, by simp [undR_eq], by simpa [undR_eq] using h2, fun _ => ⟨b, 0, size, rfl, hS b h4, fun x hx => ?_, repDR_und (S := fun c => S c ∧ c ≠ b) (fun c hc => hS c hc.1) h5 xs 0 h8⟩⟩
      rw [undR_eq] at hx
      obtain ⟨y, hy, rfl⟩ := List.mem_map.1 hx
      rw [undC_eq, List.length_map]; exact h7 y hy
  | .int _ _, _, h => by simpa [RepD, und, Rep, AV.leaf] using h
  | .bool _, _, h => by simpa [RepD, und, Rep, AV.leaf] using h
  | .str _, _, h => by simpa [RepD, und, Rep, AV.leaf] using h
  | .zc, _, h => by simpa [RepD, und, Rep, AV.leaf] using h
  | .nilp, _, h => by simpa [RepD, und, Rep, AV.leaf] using h
  | .nilf, _, h => by simpa [RepD, und, Rep, AV.leaf] using h
  | .junk, _, h => by simp [RepD] at h
  | .un, _, h => by simp [RepD] at h
  | .sl _, _, h => by simp [RepD] at h
  | .own .., _, h => by simp [RepD] at h
  | .ptr .., _, h => by simp [RepD] at h
  | .iptr .., _, h => by simp [RepD] at h
  | .fn .., _, h => by simp [RepD] at h
  | .agg _, _, h => by simp [RepD] at h
  | .tup _, _, h => by simp [RepD] at h
theorem repDR_und {S F : Nat → Prop} {w : World} (hS : ∀ b, S b → F b) {b : Nat} {cur : Array Value} {el : TypeId} (hcur : w.heap[b]? = some (.cells cur el (0, 0))) : ∀ (xs : List (List AV)) (o : Nat), RepDR S w xs cur o → RepRows F w (undR xs) b o
  | [], _, _ => by simp [undR, RepRows]
  | x :: r, o, h => by
    simp only [RepDR] at h
    simp only [undR, RepRows]
    obtain ⟨S1, S2, h1, h2, _, h4, h5⟩ := h
    have hl : (undC x).length = x.length := by rw [undC_eq, List.length_map]
    rw [hl]
    exact ⟨repDC_und (fun c hc => hS c (h1 c hc)) hcur x o h4, repDR_und (fun c hc => hS c (h2 c hc)) hcur r _ h5⟩
theorem repDC_und {S F : Nat → Prop} {w : World} (hS : ∀ b, S b → F b) {b : Nat} {cur : Array Value} {el : TypeId} (hcur : w.heap[b]? = some (.cells cur el (0, 0))) : ∀ (xs : List AV) (o : Nat), RepDC S w xs cur o → RepCells F w (undC xs) b o
  | [], _, _ => by simp [undC, RepCells]
  | x :: r, o, h => by
    simp only [RepDC] at h
    simp only [undC, RepCells]
    obtain ⟨S1, S2, h1, h2, _, ⟨u, h4, h5⟩, h6⟩ := h
    obtain ⟨g1, g2⟩ := repD_und (fun c hc => hS c (h1 c hc)) x u h5
    exact ⟨⟨u, by rw [cell_of_row w b _ cur _ _ hcur]; exact h4, g2, g1⟩, repDC_und (fun c hc => hS c (h2 c hc)) hcur r _ h6⟩
end

def bor0 (st : List Row) : AV → AV
  | .own id g n => match st[id]? with
    | some row => if row.gen = g then .sl (undR (row.xs.take n)) else .junk
    | none => .junk
  | v => v

def borrow1 (st : List Row) : AV → AV
  | .agg cs => .agg (cs.map (bor0 st))
  | v => bor0 st v

def lentIn (args : List AV) (id g n : Nat) : Prop := AV.own id g n ∈ args ∨ ∃ cs, AV.agg cs ∈ args ∧ AV.own id g n ∈ cs

def Lent (F : Nat → Prop) (os : List Own) (args : List AV) (b : Nat) : Prop := F b ∨ ∃ id g n o, lentIn args id g n ∧ os[id]? = some o ∧ o.owns b

theorem lend_own (hr : Rel F os s a w) {F1 : Nat → Prop} (hF1 : ∀ b, F b → F1 b) {id g n : Nat} {o : Own} (ho : os[id]? = some o) (hl : ∀ b, o.owns b → F1 b) (hpr : pureRow' o.row.xs) {u : Value}
    (e2 : Rep F w os (.own id g n) u) (hg : o.row.gen = g) : Rep F1 w os (.sl (undR (o.row.xs.take n))) u := by
  have hok := hr.rows id o ho
  have hm : ∀ x v, Rep F w os x v → Rep F1 w os x v := fun x v h => rep_mono hF1 (fun _ _ => rfl) os os (HosLe.refl os) x v h
  simp only [Rep] at e2 ⊢
  obtain ⟨o', ho', _, _, e2⟩ := e2
  rw [ho] at ho'; cases ho'
  obtain ⟨hn, hv⟩ := e2 hg
  have hlen : (undR (o.row.xs.take n)).length = n := by simp [undR_eq]; omega
  rcases hv with ⟨hb, ad, rfl⟩ | ⟨b, hb, rfl⟩
  · have := (hok.none hb).1
    rw [this] at hn
    simp only [List.length_nil, Nat.le_zero] at hn
    subst hn
    exact ⟨ad, 0, by simp [undR_eq], by simp [undR_eq], by simp [undR_eq]⟩
  · obtain ⟨_, cur, hcur, hsz, hle, _, hcells⟩ := hok.some b hb
    have hls : ∀ x ∈ undR (o.row.xs.take n), x.length = o.row.size := fun x hx => by
      rw [undR_eq] at hx
      obtain ⟨y, hy, rfl⟩ := List.mem_map.1 hx
      rw [undC_eq, List.length_map]; exact (hok.lens y (List.mem_of_mem_take hy)).1
    refine ⟨_, o.cap, by rw [hlen], by rw [hlen]; omega, fun _ => ⟨b, 0, o.row.size, rfl, hl b (.inl hb), hls, ?_⟩⟩
    refine repRows_mk hls fun i x hx => repCells_mk fun j c hc => ?_
    rw [undR_eq, List.getElem?_map, Option.map_eq_some_iff] at hx
    obtain ⟨x0, hx0, rfl⟩ := hx
    rw [undC_eq, List.getElem?_map, Option.map_eq_some_iff] at hc
    obtain ⟨c0, hc0, rfl⟩ := hc
    rw [List.getElem?_take] at hx0
    split at hx0
    · have hsi := hpr x0 (List.mem_of_getElem? hx0) c0 (List.mem_of_getElem? hc0)
      have hk := (hok.lens x0 (List.mem_of_getElem? hx0)).2 c0 (List.mem_of_getElem? hc0)
      by_cases hd : ∃ el sz ys, c0 = .dv el sz ys
      · obtain ⟨el, sz, ys, rfl⟩ := hd
        obtain ⟨D, d1, _, d3⟩ := hok.deep
        obtain ⟨u, f1, f2⟩ := d3 b hb cur _ _ hcur i x0 j el sz ys hx0 hc0
        obtain ⟨g1, g2⟩ := repD_und (F := F1) (fun c hc => hl c (.inr (d1 _ _ _ hc))) _ u f2
        exact ⟨u, by rw [cell_of_row w b _ cur _ _ hcur]; simpa using f1, g2, g1⟩
      · have hs : simple c0 = true := by cases c0 <;> simp_all [simple']
        rw [und_simple hs]
        obtain ⟨u, f1, f2⟩ := hcells i x0 hx0 j c0 hc0
        refine ⟨u, ?_, by cases c0 <;> simp_all [AV.kept], rep_simple hs [] (hm _ _ f2)⟩
        rw [cell_of_row w b _ cur _ _ hcur]
        simpa using f1
    · cases hx0

theorem lend_args (hr : Rel F os s a w) {args : List AV} {vs : List Value} (hl : RepL F w os args vs) (hpure : ∀ id g n, lentIn args id g n → ∀ row, s.st[id]? = some row → pureRow' row.xs) :
    RepL (Lent F os args) w os (args.map (borrow1 s.st)) vs := by
  have hF1 : ∀ b, F b → Lent F os args b := fun _ h => .inl h
  have hm : ∀ x v, Rep F w os x v → Rep (Lent F os args) w os x v := fun x v h => rep_mono hF1 (fun _ _ => rfl) os os (HosLe.refl os) x v h
  have h0 : ∀ y u, (∀ id g n, y = AV.own id g n → lentIn args id g n) → Rep F w os y u → Rep (Lent F os args) w os (bor0 s.st y) u := fun y u hin e2 => by
    cases y with
    | own id g n =>
      simp only [bor0]
      split
      · rename_i row hrow
        split
        · rename_i hg
          obtain ⟨o, ho, rfl⟩ := hr.row hrow
          exact lend_own hr hF1 ho (fun b hb => .inr ⟨id, g, n, o, hin id g n rfl, ho, hb⟩) (hpure id g n (hin id g n rfl) o.row hrow) e2 hg
        · simp [Rep]
      · simp [Rep]
    | _ => exact hm _ _ e2
  refine repL_mk (by simp [repL_length hl]) fun i x u hx hu => ?_
  simp only [List.getElem?_map, Option.map_eq_some_iff] at hx
  obtain ⟨y, hy, rfl⟩ := hx
  obtain ⟨u', e1, e2⟩ := repL_get hl i y hy
  rw [hu] at e1; cases e1
  have hym := List.mem_of_getElem? hy
  cases y with
  | agg cs =>
    simp only [borrow1, Rep] at e2 ⊢
    obtain ⟨us, e, hcs⟩ := e2
    refine ⟨us, e, repL_mk (by simp [repL_length hcs]) fun j x u hx hu => ?_⟩
    simp only [List.getElem?_map, Option.map_eq_some_iff] at hx
    obtain ⟨y, hy, rfl⟩ := hx
    obtain ⟨u', e1, e2⟩ := repL_get hcs j y hy
    rw [hu] at e1; cases e1
    exact h0 y u (fun id g n e => .inr ⟨cs, hym, e ▸ List.mem_of_getElem? hy⟩) e2
  | own id g n => exact h0 _ u (fun id' g' n' e => .inl (e ▸ hym)) e2
  | _ => exact hm _ _ e2

/-- A call that is handed rows to be read: what is left of it. -/
theorem borrow_core {P : Program} {s : St} {f : FuncId} {args : List AV} {R : AV → List Row → Prop} {k : Nat} (h : ACalls P f (args.map (borrow1 s.st)) [] R) (hf : (args.map (borrow1 s.st)).all flat = true)
    (hpure : ∀ id g n, lentIn args id g n → ∀ row, s.st[id]? = some row → pureRow' row.xs) {F : Nat → Prop} {os : List Own} {a : Act} {w : World} {vs : List Value} (hr : Rel F os s a w) (hl : RepL F w os args vs) :
    Calls P f vs.toArray w fun e w' => ∃ u r st' F' os1, e = .returned u ∧ R r st' ∧ Rel F os s a w' ∧ StoreOK F' os1 st' w' ∧ Rep F' w' os1 r u ∧ (∀ b, F b → F' b) ∧ Ext F os w F os w' k ∧
      (∀ (i : Nat) (o : Own), os[i]? = some o → ∀ b, o.owns b → ∀ o1 : Own, o1 ∈ os1 → ¬ o1.owns b) ∧ ∀ b, b < w.heap.size → ¬ F b → (∀ o : Own, o ∈ os → ¬ o.owns b) → ∀ o1 : Own, o1 ∈ os1 → ¬ o1.owns b := by
  -- for the call, the rows are frozen
  have hF1 : ∀ b, F b → Lent F os args b := fun _ h => .inl h
  have hlt : ∀ (i : Nat) (o : Own) b, os[i]? = some o → o.owns b → b < w.heap.size := fun i o b hi hb => (hr.rows i o hi).lt hb
  have hold1 : ∀ b, Lent F os args b → b < w.heap.size := fun b hb => by
    rcases hb with hb | ⟨id, g, n, o, _, ho, hob⟩
    · exact hr.old b hb
    · exact hlt id o b ho hob
  have hargs := lend_args hr hl hpure
  refine (h (Lent F os args) [] w vs (StoreOK.nil hold1) (repL_flat hf [] hargs)).mono ?_
  rintro e w' ⟨u, r, st', F', os1, rfl, hR, hs, hru, he⟩
  -- the caller's own rows afterwards
  have hrow : ∀ (i : Nat) (o : Own), os[i]? = some o → ∀ b, o.owns b → w'.heap[b]? = w.heap[b]? ∧ ∀ o1 : Own, o1 ∈ os1 → ¬ o1.owns b := fun i o ho b hb => by
    by_cases h1 : Lent F os args b
    · refine ⟨he.fsame b h1, fun o1 ho1 e => ?_⟩
      obtain ⟨j, hj⟩ := List.mem_iff_getElem?.1 ho1
      exact (hs.rows j o1 hj).nF e (he.fsub b h1)
    · obtain ⟨f1, _, f3⟩ := he.other b (hlt i o b ho hb) h1 (by simp)
      exact ⟨f1, f3⟩
  have hmono : ∀ x v, Rep F w os x v → Rep F w' os x v := fun x v h => rep_mono (fun _ h => h) (fun b hb => he.fsame b (hF1 b hb)) os os (HosLe.refl os) x v h
  have hr' : Rel F os s a w' := ⟨hr.st, fun t => hmono _ _ (hr.env t), hr.size, fun i o ho => by
      have hok := hr.rows i o ho
      refine ⟨hok.pos, hok.lens, hok.none, fun b hb => ?_, fun b hb => ⟨(hok.mo b hb).1, Nat.lt_of_lt_of_le (hok.mo b hb).2.1 he.size, (hok.mo b hb).2.2⟩, hok.deep.keep rfl (fun _ h => h) rfl (fun b hb => (hrow i o ho b hb).1) (fun i x j e s ys hx hc => ⟨x, hx, hc⟩)⟩
      obtain ⟨e1, cur, e2, e3, e4, e5, e6⟩ := hok.some b hb
      exact ⟨e1, cur, by rw [(hrow i o ho b (.inl hb)).1]; exact e2, e3, e4, e5, fun i' x hx j c hc => by obtain ⟨u, f1, f2⟩ := e6 i' x hx j c hc; exact ⟨u, f1, hmono _ _ f2⟩⟩,
    hr.inj, fun b hb => Nat.lt_of_lt_of_le (hr.old b hb) he.size, hr.defers⟩
  have hoth : ∀ b, b < w.heap.size → ¬ F b → (∀ o : Own, o ∈ os → ¬ o.owns b) → w'.heap[b]? = w.heap[b]? ∧ ∀ o1 : Own, o1 ∈ os1 → ¬ o1.owns b := fun b hb e1 e2 => by
    have hnF1 : ¬ Lent F os args b := fun h => h.elim e1 (fun ⟨id, g, n, o, _, ho, hob⟩ => e2 o (List.mem_of_getElem? ho) hob)
    obtain ⟨f1, _, f3⟩ := he.other b hb hnF1 (by simp)
    exact ⟨f1, f3⟩
  exact ⟨u, r, st', F', os1, rfl, hR, hr', hs, hru, fun b hb => he.fsub b (hF1 b hb),
    ⟨he.sys, he.tape, he.output, he.size, fun _ h => h, fun b hb => he.fsame b (hF1 b hb), fun b hb e1 e2 => ⟨(hoth b hb e1 e2).1, e1, e2⟩, fun i o _ ho => ⟨o, ho, Nat.le_refl _, rfl, fun _ => ⟨rfl, rfl, rfl⟩⟩⟩,
    fun i o ho b hb => (hrow i o ho b hb).2, fun b hb e1 e2 => (hoth b hb e1 e2).2⟩

/-- A call to which rows of the caller's are handed over to be read; what comes back leans on none of them. -/
theorem callThen_borrow {f : FuncId} {args : List AV} {d : Option Tmp} {K : St → Prop} {R : AV → List Row → Prop} (h : ACalls P f (args.map (borrow1 s.st)) [] R) (hf : (args.map (borrow1 s.st)).all flat = true)
    (hpure : ∀ id g n, lentIn args id g n → ∀ row, s.st[id]? = some row → pureRow' row.xs)
    (hK : ∀ r st', R r st' → (scal r = true ∧ ∀ row ∈ st', ∀ x ∈ row.xs, ∀ c ∈ x, scal1 c = true) ∧ (∀ row ∈ st', pureRow' row.xs) ∧ K ({ s with st := s.st ++ st' }.put d (shift s.st.length r))) : callThen P k s f args d K := by
  intro F os a w vs hr hl
  refine (borrow_core (k := k) h hf hpure hr hl).mono ?_
  rintro e w' ⟨u, r, st', F', os1, rfl, hR, hr', hs, hru, hFF, he, hdis, hoth⟩
  obtain ⟨⟨hsr, hsc⟩, hp, hk⟩ := hK r st' hR
  refine ⟨u, _, s.st ++ st', F, os ++ os1, rfl, hk, hr'.join hs hFF hp (.inr hsc) hdis, ?_, ?_⟩
  · rw [hr.len]; exact rep_shift (rep_scal hsr hru)
  · refine ⟨he.sys, he.tape, he.output, he.size, fun _ h => h, he.fsame, fun b hb e1 e2 => ?_, fun i o hi ho => HosLe.append os os1 i o ho⟩
    obtain ⟨f1, _, _⟩ := he.other b hb e1 e2
    exact ⟨f1, e1, fun o ho => by rcases List.mem_append.1 ho with h | h; exact e2 o h; exact hoth b hb e1 e2 o h⟩

end Go.Abs

namespace Go.Abs
open Go

/-! ### The rules by which a walk is reckoned out: what stands behind an operation is not looked at before its turn -/

structure Tok {α : Type} (a : α) : Type where

/-- A continuation into which simp does not go. -/
def thk {α : Type} (K : α → Prop) (_ : Tok K) : α → Prop := K
def hold (p : Prop) (_ : Tok p) : Prop := p

theorem thk_app {α : Type} (K : α → Prop) (u : Tok K) (a : α) : thk K u a = K a := rfl

section
variable {P : Program} {k : Nat} {K : AV → Prop} {a b : Int} {t : TypeId} {s : St}

theorem wrap_i64 {n : Int} (h1 : -9223372036854775808 ≤ n) (h2 : n ≤ 9223372036854775807) : IntKind.i64.wrap n = n := IntWalk.i64_in n ⟨h1, h2⟩
theorem wrap_low {n : Int} (h1 : -18446744073709551616 ≤ n) (h2 : n < -9223372036854775808) : IntKind.i64.wrap n = n + 18446744073709551616 := by
  have h3 : IntKind.i64.bits = 64 := rfl
  have h4 : IntKind.i64.signed = true := rfl
  simp only [IntKind.wrap, h3, h4]
  have e1 : (2 : Int) ^ 64 = 18446744073709551616 := by decide
  have e2 : (2 : Int) ^ (64 - 1) = 9223372036854775808 := by decide
  rw [e1, e2]
  have : n % 18446744073709551616 = n + 18446744073709551616 := by omega
  rw [this]
  simp only [Bool.true_and, decide_eq_true_eq]
  split <;> omega

theorem aBin_add (h1 : -9223372036854775808 ≤ a + b) (h2 : a + b ≤ 9223372036854775807) : aBin P t .add (.int .i64 a) (.int .i64 b) K = K (.int .i64 (a + b)) := by
  simp [aBin, aInt, wrap_i64 h1 h2]
theorem aBin_sub (h1 : -9223372036854775808 ≤ a - b) (h2 : a - b ≤ 9223372036854775807) : aBin P t .sub (.int .i64 a) (.int .i64 b) K = K (.int .i64 (a - b)) := by
  simp [aBin, aInt, wrap_i64 h1 h2]
theorem aBin_sub_w : aBin P t .sub (.int .i64 a) (.int .i64 b) K = K (.int .i64 (IntKind.i64.wrap (a - b))) := by simp [aBin, aInt]
theorem aBin_add_w : aBin P t .add (.int .i64 a) (.int .i64 b) K = K (.int .i64 (IntKind.i64.wrap (a + b))) := by simp [aBin, aInt]
theorem aBin_mul (h1 : -9223372036854775808 ≤ a * b) (h2 : a * b ≤ 9223372036854775807) : aBin P t .mul (.int .i64 a) (.int .i64 b) K = K (.int .i64 (a * b)) := by
  simp [aBin, aInt, wrap_i64 h1 h2]
theorem aBin_lss : aBin P t .lss (.int .i64 a) (.int .i64 b) K = K (.bool (decide (a < b))) := by simp [aBin, aInt]
theorem aBin_leq : aBin P t .leq (.int .i64 a) (.int .i64 b) K = K (.bool (decide (a ≤ b))) := by simp [aBin, aInt]
theorem aBin_gtr : aBin P t .gtr (.int .i64 a) (.int .i64 b) K = K (.bool (decide (b < a))) := by simp [aBin, aInt]
theorem aBin_geq : aBin P t .geq (.int .i64 a) (.int .i64 b) K = K (.bool (decide (b ≤ a))) := by simp [aBin, aInt]
theorem aBin_eql : aBin P t .eql (.int .i64 a) (.int .i64 b) K = K (.bool (decide (a = b))) := by
  simp only [aBin, aInt]; simp only [true_and]; congr 2
theorem aBin_neq : aBin P t .neq (.int .i64 a) (.int .i64 b) K = K (.bool (!decide (a = b))) := by
  simp only [aBin, aInt]; simp only [true_and]; congr 2
theorem aBin_beql {a b : Bool} (h : isBoolT P t = true) : aBin P t .eql (.bool a) (.bool b) K = K (.bool (a == b)) := by simp [aBin, h]
theorem aBin_bneq {a b : Bool} (h : isBoolT P t = true) : aBin P t .neq (.bool a) (.bool b) K = K (.bool (a != b)) := by simp [aBin, h]
theorem aUn_not {b : Bool} : aUn .not (.bool b) K = K (.bool (!b)) := rfl
theorem aPart_one {size off : Nat} {x : List AV} : aPart false size x off K = optK x[off]? K := rfl
theorem aPick_false {x : AV} {q : Bool} : aPick (.bool false) x (.bool q) K = K (.bool q) := by
  cases x <;> simp [aPick]
theorem aPick_true {x : AV} {q : Bool} : aPick (.bool true) (.bool q) x K = K (.bool q) := by
  cases x <;> simp [aPick]
theorem aPick_bool {t p q : Bool} : aPick (.bool t) (.bool p) (.bool q) K = K (.bool (if t then p else q)) := rfl
def iv : AV → Int
  | .int _ n => n
  | _ => 0
def ol : AV → Nat
  | .own _ _ n => n
  | _ => 0
theorem upd_eq (e : Nat → AV) (d : Nat) (v : AV) (t : Nat) : upd e d v t = if t = d then v else e t := rfl
theorem aBool_bool {b : Bool} {K : Bool → Prop} : aBool (.bool b) K = K b := rfl
theorem aGd_bool {b want : Bool} {A B : Prop} {u : Tok A} {u' : Tok B} : aGd (.bool b) want (hold A u) (hold B u') = aG b want (hold A u) (hold B u') := rfl
theorem aGd_un {want : Bool} {A B : Prop} {u : Tok B} : aGd .un want A (hold B u) = B := rfl
theorem aG_tt {A B : Prop} {u : Tok A} : aG true true (hold A u) B = A := by simp [aG, hold]
theorem aG_ff {A B : Prop} {u : Tok A} : aG false false (hold A u) B = A := by simp [aG, hold]
theorem aG_tf {A B : Prop} {u : Tok B} : aG true false A (hold B u) = B := by simp [aG, hold]
theorem aG_ft {A B : Prop} {u : Tok B} : aG false true A (hold B u) = B := by simp [aG, hold]
def renEnv (sel : List Nat) (e : Nat → AV) : Nat → AV := fun t => ren sel (e t)
theorem renEnv_app {sel : List Nat} {e : Nat → AV} {t : Nat} : renEnv sel e t = ren sel (e t) := rfl
theorem Wk.drop0 {n : Nat} {e : Nat → AV} {st : List Row} : Wk 0 ⟨n, e, st⟩ ⟨n, renEnv [] e, []⟩ := by
  generalize hs : (⟨n, e, st⟩ : St) = s
  have e1 : n = s.n := by rw [← hs]
  have e2 : e = s.env := by rw [← hs]
  subst e1; subst e2
  have := Wk.select (k := 0) (s := s) [] (by omega) (by simp) (by simp) (by simp)
  have h2 : pickRows s.st [] = [] := rfl
  rw [h2] at this
  exact this
theorem natCast_nonneg (n : Nat) : (0 ≤ (n : Int)) = True := by simp
end

section
variable {P : Program} {k : Nat} {ds : List (Option Tmp)} {o : Oper} {r : List Oper} {KS : St → Prop} {s : St} {d : Option Tmp} {ty : TypeId} {p : String} {e : Array Edge} {g : Option (Nat × Bool)} {A B : Prop}

theorem aops_nil : aops P k ds [] KS s = KS s := rfl
theorem aops_cons : aops P k ds (o :: r) KS s = aguard ds o s (hold (astep P k o s (thk (aops P k (ds ++ [o.dst]) r KS) ⟨⟩)) ⟨⟩) (hold (aops P k (ds ++ [o.dst]) r KS (s.put o.dst .un)) ⟨⟩) := rfl
theorem dops_nil : dops P ds [] KS s = KS s := rfl
theorem dops_cons : dops P ds (o :: r) KS s = aguard ds o s (hold (dstep P o s (thk (fun v => dops P (ds ++ [o.dst]) r KS (s.put o.dst v)) ⟨⟩)) ⟨⟩) (hold (dops P (ds ++ [o.dst]) r KS (s.put o.dst .un)) ⟨⟩) := rfl
theorem put_some {n : Nat} {e : Nat → AV} {st : List Row} {d : Nat} {v : AV} : St.put ⟨n, e, st⟩ (some d) v = ⟨n, upd e d v, st⟩ := rfl
theorem put_none {s : St} {v : AV} : St.put s none v = s := rfl
theorem aguard_none {op : Op} {u : Tok A} : aguard ds ⟨d, op, ty, p, e, none⟩ s (hold A u) B = A := rfl
theorem aguard_some {op : Op} {jj : Nat} {want : Bool} {u : Tok A} {u' : Tok B} :
    aguard ds ⟨d, op, ty, p, e, some (jj, want)⟩ s (hold A u) (hold B u') = optK ds[jj]? (thk (fun d => optK d (thk (fun t => aGd (s.env t) want (hold A u) (hold B u')) ⟨⟩)) ⟨⟩) := by
  simp only [aguard, thk]
  cases ds[jj]? with
  | none => rfl
  | some d => cases d <;> rfl

-- an operation, by its kind
variable {x y z : Operand} {t t' : TypeId}
theorem st_move : astep P k ⟨d, .move x, ty, p, e, g⟩ s KS = KS (s.put d (s.ev x)) := rfl
theorem st_assign : astep P k ⟨d, .assign x, ty, p, e, g⟩ s KS = KS (s.put d (s.ev x)) := rfl
theorem st_pick : astep P k ⟨d, .pick x y z, ty, p, e, g⟩ s KS = aPick (s.ev x) (s.ev y) (s.ev z) (thk (fun v => KS (s.put d v)) ⟨⟩) := rfl
theorem st_nil : astep P k ⟨d, .nilCheck x, ty, p, e, g⟩ s KS = aNil s.st (s.ev x) (thk (fun v => KS (s.put d v)) ⟨⟩) := rfl
theorem st_bin_tmp {op : BinOp} {y : Tmp} : astep P k ⟨d, .binOp op t x (.tmp y) t', ty, p, e, g⟩ s KS = aBin P t op (s.ev x) (s.env y) (thk (fun v => KS (s.put d v)) ⟨⟩) := by cases op <;> rfl
theorem st_bin_int {op : BinOp} {kk : IntKind} {n : Int} : astep P k ⟨d, .binOp op t x (.const (.int kk n)) t', ty, p, e, g⟩ s KS = aBin P t op (s.ev x) (.int kk n) (thk (fun v => KS (s.put d v)) ⟨⟩) := by cases op <;> rfl
theorem st_bin_bool {op : BinOp} {b : Bool} : astep P k ⟨d, .binOp op t x (.const (.bool b)) t', ty, p, e, g⟩ s KS = aBin P t op (s.ev x) (.bool b) (thk (fun v => KS (s.put d v)) ⟨⟩) := by cases op <;> rfl
theorem st_bin_nil : astep P k ⟨d, .binOp .eql t x (.const (.slice none 0 0)) t', ty, p, e, g⟩ s KS = aNilEq P t s.st (s.ev x) (thk (fun v => KS (s.put d v)) ⟨⟩) := rfl
theorem st_un {op : UnOp} : astep P k ⟨d, .unOp op t x, ty, p, e, g⟩ s KS = aUn op (s.ev x) (thk (fun v => KS (s.put d v)) ⟨⟩) := rfl
theorem st_conv : astep P k ⟨d, .convert t t' x, ty, p, e, g⟩ s KS = aConv P t t' (s.ev x) (thk (fun v => KS (s.put d v)) ⟨⟩) := rfl
theorem st_load : astep P k ⟨d, .load t x, ty, p, e, g⟩ s KS = aLoad P s.st t (s.ev x) (thk (fun v => KS (s.put d v)) ⟨⟩) := rfl
theorem st_fieldAddr {f : Nat} : astep P k ⟨d, .fieldAddr t x f, ty, p, e, g⟩ s KS = aFieldAddr P t (s.ev x) f s.st (thk (fun v => KS (s.put d v)) ⟨⟩) := rfl
theorem st_field {f : Nat} : astep P k ⟨d, .field t x f, ty, p, e, g⟩ s KS = aField P t (s.ev x) f (thk (fun v => KS (s.put d v)) ⟨⟩) := rfl
theorem st_indexAddr : astep P k ⟨d, .indexAddr t x y, ty, p, e, g⟩ s KS = aIndexAddr P s.st t (s.ev x) (s.ev y) (thk (fun v => KS (s.put d v)) ⟨⟩) := rfl
theorem st_extract {i : Nat} : astep P k ⟨d, .extract x i, ty, p, e, g⟩ s KS = aExtract (s.ev x) i (thk (fun v => KS (s.put d v)) ⟨⟩) := rfl
theorem st_build {parts : Array (Nat × Operand)} : astep P k ⟨d, .build t parts, ty, p, e, g⟩ s KS = aBuild P t (parts.toList.map fun p => (p.1, s.ev p.2)) (thk (fun v => KS (s.put d v)) ⟨⟩) := rfl
theorem st_makeFunc {f : FuncId} {first caps : Array Operand} : astep P k ⟨d, .makeFunc (.func f) first caps, ty, p, e, g⟩ s KS = (first = #[] ∧ KS (s.put d (.fn f (caps.toList.map s.ev)))) := rfl
theorem st_len : astep P k ⟨d, .call ⟨.builtin .len, #[x], #[t]⟩, ty, p, e, g⟩ s KS = (isSliceT P t = true ∧ aLen s.st (s.ev x) (thk (fun v => KS (s.put d v)) ⟨⟩)) := rfl
theorem st_max {ts : Array TypeId} : astep P k ⟨d, .call ⟨.builtin .max, #[x, y], ts⟩, ty, p, e, g⟩ s KS = aMax (s.ev x) (s.ev y) (thk (fun v => KS (s.put d v)) ⟨⟩) := rfl
theorem st_min {ts : Array TypeId} : astep P k ⟨d, .call ⟨.builtin .min, #[x, y], ts⟩, ty, p, e, g⟩ s KS = aMin (s.ev x) (s.ev y) (thk (fun v => KS (s.put d v)) ⟨⟩) := rfl
theorem st_alloc : astep P k ⟨d, .alloc t, ty, p, e, g⟩ s KS = optK (zinfo P t) (thk (fun z => KS (St.put ⟨s.n, s.env, s.st ++ [⟨0, t, z.length, [z]⟩]⟩ d (.ptr s.st.length 0 0 0))) ⟨⟩) := rfl
theorem st_box : astep P k ⟨d, .box t x, ty, p, e, g⟩ s KS = optK (cellsV (s.ev x)) (thk (fun cs => cs ≠ [] ∧ KS (St.put ⟨s.n, s.env, s.st ++ [⟨0, t, cs.length, [cs]⟩]⟩ d (.ptr s.st.length 0 0 0))) ⟨⟩) := rfl
theorem st_store : astep P k ⟨d, .store t x y, ty, p, e, g⟩ s KS = aStore P s.st t (s.ev x) (s.ev y) (thk (fun st => KS (St.put ⟨s.n, s.env, st⟩ d .junk)) ⟨⟩) := rfl
def thk2 {α β : Type} (K : α → β → Prop) (_ : Tok K) : α → β → Prop := K
theorem thk2_app {α β : Type} (K : α → β → Prop) (u : Tok K) (a : α) (b : β) : thk2 K u a b = K a b := rfl
theorem st_makeSlice : astep P k ⟨d, .makeSlice t x y, ty, p, e, g⟩ s KS = aMake P s.st t (s.ev x) (s.ev y) (thk2 (fun v st => KS (St.put ⟨s.n, s.env, st⟩ d v)) ⟨⟩) := rfl
theorem st_buildSlice {n : Nat} {parts : Array (Nat × Operand)} : astep P k ⟨d, .buildSlice t n parts, ty, p, e, g⟩ s KS = aBuildSlice P s.st t n (parts.toList.map fun p => (p.1, s.ev p.2)) (thk2 (fun v st => KS (St.put ⟨s.n, s.env, st⟩ d v)) ⟨⟩) := rfl
theorem st_slice {lo hi mx : Option Operand} : astep P k ⟨d, .slice t x lo hi mx, ty, p, e, g⟩ s KS = aSlice P s.st t (s.ev x) (lo.map s.ev) (hi.map s.ev) (mx.map s.ev) (thk2 (fun v st => KS (St.put ⟨s.n, s.env, st⟩ d v)) ⟨⟩) := rfl
theorem st_append : astep P k ⟨d, .call ⟨.builtin .append, #[x, y], #[t, t']⟩, ty, p, e, g⟩ s KS = (t = t' ∧ aAppend P s.st t (s.ev x) (s.ev y) (thk2 (fun v st => KS (St.put ⟨s.n, s.env, st⟩ d v)) ⟨⟩)) := rfl
theorem st_call_func {f : FuncId} {args : Array Operand} {ts : Array TypeId} : astep P k ⟨d, .call ⟨.value (.func f), args, ts⟩, ty, p, e, g⟩ s KS = (hasBody P f = true ∧ callThen P k s f (args.toList.map s.ev ++ []) d KS) := rfl
theorem st_call_tmp {f : Tmp} {args : Array Operand} {ts : Array TypeId} : astep P k ⟨d, .call ⟨.value (.tmp f), args, ts⟩, ty, p, e, g⟩ s KS = aCallee (s.env f) fun f caps => hasBody P f = true ∧ callThen P k s f (args.toList.map s.ev ++ caps) d KS := rfl

variable {K : AV → Prop}
theorem dt_move : dstep P ⟨d, .move x, ty, p, e, g⟩ s K = K (s.ev x) := rfl
theorem dt_assign : dstep P ⟨d, .assign x, ty, p, e, g⟩ s K = K (s.ev x) := rfl
theorem dt_pick : dstep P ⟨d, .pick x y z, ty, p, e, g⟩ s K = aPick (s.ev x) (s.ev y) (s.ev z) K := rfl
theorem dt_nil : dstep P ⟨d, .nilCheck x, ty, p, e, g⟩ s K = aNil s.st (s.ev x) K := rfl
theorem dt_un {op : UnOp} : dstep P ⟨d, .unOp op t x, ty, p, e, g⟩ s K = aUn op (s.ev x) K := rfl
theorem dt_conv : dstep P ⟨d, .convert t t' x, ty, p, e, g⟩ s K = aConv P t t' (s.ev x) K := rfl
theorem dt_load : dstep P ⟨d, .load t x, ty, p, e, g⟩ s K = aLoad P s.st t (s.ev x) K := rfl
theorem dt_fieldAddr {f : Nat} : dstep P ⟨d, .fieldAddr t x f, ty, p, e, g⟩ s K = aFieldAddr P t (s.ev x) f s.st K := rfl
theorem dt_field {f : Nat} : dstep P ⟨d, .field t x f, ty, p, e, g⟩ s K = aField P t (s.ev x) f K := rfl
theorem dt_indexAddr : dstep P ⟨d, .indexAddr t x y, ty, p, e, g⟩ s K = aIndexAddr P s.st t (s.ev x) (s.ev y) K := rfl
theorem dt_extract {i : Nat} : dstep P ⟨d, .extract x i, ty, p, e, g⟩ s K = aExtract (s.ev x) i K := rfl
theorem dt_build {parts : Array (Nat × Operand)} : dstep P ⟨d, .build t parts, ty, p, e, g⟩ s K = aBuild P t (parts.toList.map fun p => (p.1, s.ev p.2)) K := rfl
theorem dt_len : dstep P ⟨d, .call ⟨.builtin .len, #[x], #[t]⟩, ty, p, e, g⟩ s K = (isSliceT P t = true ∧ aLen s.st (s.ev x) K) := rfl
theorem dt_max {ts : Array TypeId} : dstep P ⟨d, .call ⟨.builtin .max, #[x, y], ts⟩, ty, p, e, g⟩ s K = aMax (s.ev x) (s.ev y) K := rfl

theorem ev_tmp {n : Nat} {e : Nat → AV} {st : List Row} {t : Tmp} : St.ev ⟨n, e, st⟩ (.tmp t) = e t := rfl
theorem ev_func {f : FuncId} : s.ev (.func f) = .fn f [] := rfl
theorem ev_int {kk : IntKind} {n : Int} : s.ev (.const (.int kk n)) = .int kk n := rfl
theorem ev_bool {b : Bool} : s.ev (.const (.bool b)) = .bool b := rfl
theorem ev_nil : s.ev (.const (.slice none 0 0)) = .zc := rfl
theorem ev_agg {cs : Array Value} : s.ev (.const (.agg cs)) = .agg (cs.toList.map ofLeafZ) := rfl
theorem ofLeaf_int {kk : IntKind} {n : Int} : ofLeaf (.int kk n) = .int kk n := rfl
theorem ofLeaf_bool {b : Bool} : ofLeaf (.bool b) = .bool b := rfl
theorem ofLeaf_nil : ofLeaf (.slice none 0 0) = .zc := rfl
theorem athen_normal {K : St → Prop} {Q : Exit → St → Prop} : athen K Q .normal s = K s := rfl
theorem envOf_zero {v : AV} {l : List AV} : envOf (v :: l) 0 = v := rfl
theorem envOf_succ {v : AV} {l : List AV} {n : Nat} : envOf (v :: l) (n + 1) = envOf l n := rfl
theorem envOf_nil {n : Nat} : envOf [] n = .junk := rfl
end

section
variable {P : Program} {st : List Row} {t : TypeId} {K : AV → Prop} {K2 : AV → List Row → Prop} {id g i off n : Nat} {kk kk' : IntKind} {j j' : Int} {x v : AV} {xs : List (List AV)} {cs : List AV}
theorem aNil_ptr : aNil st (.ptr id g i off) K = optK st[id]? (thk (fun row => row.gen = g ∧ K (.ptr id g i off)) ⟨⟩) := rfl
theorem aNil_iptr : aNil st (.iptr cs off) K = K (.iptr cs off) := rfl
theorem aLen_own : aLen st (.own id g n) K = optK st[id]? (thk (fun row => row.gen = g ∧ K (.int .i64 n)) ⟨⟩) := rfl
theorem aLen_sl : aLen st (.sl xs) K = K (.int .i64 xs.length) := rfl
theorem aLen_zc : aLen st .zc K = K (.int .i64 0) := rfl
theorem aLoad_ptr : aLoad P st t (.ptr id g i off) K = optK (tinfo P t) (thk (fun ti => optK st[id]? (thk (fun row => row.gen = g ∧ optK row.xs[i]? (thk (fun x => aPart ti.1 ti.2 x off K) ⟨⟩)) ⟨⟩)) ⟨⟩) := rfl
theorem aLoad_iptr : aLoad P st t (.iptr cs off) K = optK (tinfo P t) (thk (fun ti => aPart ti.1 ti.2 cs off K) ⟨⟩) := rfl
theorem aFieldAddr_ptr {f : Nat} : aFieldAddr P t (.ptr id g i off) f st K = optK (finfo P t f) (thk (fun o => optK st[id]? (thk (fun row => row.gen = g ∧ off + o ≤ row.size ∧ K (.ptr id g i (off + o))) ⟨⟩)) ⟨⟩) := rfl
theorem aFieldAddr_iptr {f : Nat} : aFieldAddr P t (.iptr cs off) f st K = optK (finfo P t f) (thk (fun o => K (.iptr cs (off + o))) ⟨⟩) := rfl
theorem aIndexAddr_own : aIndexAddr P st t (.own id g n) (.int kk j) K = optK (einfo P t) (thk (fun ei => 0 ≤ j ∧ j < n ∧ optK st[id]? (thk (fun row => row.gen = g ∧ row.size = ei.size ∧ K (.ptr id g j.toNat 0)) ⟨⟩)) ⟨⟩) := rfl
theorem aIndexAddr_sl : aIndexAddr P st t (.sl xs) (.int kk j) K = optK (einfo P t) (thk (fun ei => 0 ≤ j ∧ optK xs[j.toNat]? (thk (fun y => y.length = ei.size ∧ K (.iptr y 0)) ⟨⟩)) ⟨⟩) := rfl
theorem aElems_sl {K : List (List AV) → Prop} : aElems st (.sl xs) K = K xs := rfl
theorem aElems_zc {K : List (List AV) → Prop} : aElems st .zc K = K [] := rfl
theorem aElems_own {K : List (List AV) → Prop} : aElems st (.own id g n) K = optK st[id]? (thk (fun row => row.gen = g ∧ (∀ y ∈ row.xs, ∀ c ∈ y, c.leaf = true) ∧ K (row.xs.take n)) ⟨⟩) := rfl
theorem aAppend_zc : aAppend P st t .zc x K2 = optK (einfo P t) (thk (fun ei => aElems st x (thk (fun ys => (∀ y ∈ ys, y.length = ei.size) ∧ ys.length * ei.bytes ≤ 140737488355328 ∧ ys.length ≤ 9223372036854775807 ∧ K2 (.own st.length 0 ys.length) (st ++ [⟨0, ei.e, ei.size, ys⟩])) ⟨⟩)) ⟨⟩) := rfl
theorem aAppend_own : aAppend P st t (.own id g n) x K2 = optK (einfo P t) (thk (fun ei => aElems st x (thk (fun ys => (∀ y ∈ ys, y.length = ei.size) ∧ optK st[id]? (thk (fun row => row.gen = g ∧ row.elem = ei.e ∧ row.size = ei.size ∧ (n + ys.length) * ei.bytes ≤ 140737488355328 ∧ n + ys.length ≤ 9223372036854775807 ∧
        K2 (.own id (g + 1) (n + ys.length)) (st.set id { row with gen := g + 1, xs := row.xs.take n ++ ys })) ⟨⟩)) ⟨⟩)) ⟨⟩) := rfl
theorem aStore_ptr {K : List Row → Prop} : aStore P st t (.ptr id g i off) v K = optK (tinfo P t) (thk (fun ti => optK st[id]? (thk (fun row => row.gen = g ∧ optK row.xs[i]? (thk (fun x => optK (cellsV v) (thk (fun cs =>
        cs.length = ti.2 ∧ off + cs.length ≤ row.size ∧ K (st.set id { row with xs := row.xs.set i (splice x off cs) })) ⟨⟩)) ⟨⟩)) ⟨⟩)) ⟨⟩) := rfl
theorem aMake_int : aMake P st t (.int kk j) (.int kk' j') K2 = optK (einfo P t) (thk (fun ei => j = j' ∧ 0 ≤ j ∧ j * (ei.bytes : Int) ≤ 281474976710656 ∧ j ≤ 9223372036854775807 ∧ K2 (.own st.length 0 j.toNat) (st ++ [⟨0, ei.e, ei.size, List.replicate j.toNat ei.zero⟩])) ⟨⟩) := rfl
theorem aBuildSlice_eq {len : Nat} {parts : List (Nat × AV)} : aBuildSlice P st t len parts K2 = optK (einfo P t) (thk (fun ei => len * ei.size ≤ 16777216 ∧ optK (afill (fun i => some (i * ei.size, ei.size)) ((List.replicate len ei.zero).flatten) parts) (thk (fun cs =>
    K2 (.own st.length 0 len) (st ++ [⟨0, ei.e, ei.size, chunk ei.size len cs⟩])) ⟨⟩)) ⟨⟩) := rfl
theorem aBuild_eq {parts : List (Nat × AV)} : aBuild P t parts K = (allInfo P t = true ∧ optK (finfos P t) (thk (fun fs => optK (zinfo P t) (thk (fun z => optK (afill (fs[·]?) z parts) (thk (fun cs => K (.agg cs)) ⟨⟩)) ⟨⟩)) ⟨⟩)) := rfl
theorem aExtract_tup {vs : List AV} : aExtract (.tup vs) i K = optK vs[i]? K := rfl
theorem aCallee_fn {f : FuncId} {K : FuncId → List AV → Prop} : aCallee (.fn f cs) K = K f cs := rfl
theorem aMax_int {a b : Int} : aMax (.int kk a) (.int kk' b) K = K (.int kk (if b > a then b else a)) := rfl
theorem aMin_int {a b : Int} : aMin (.int kk a) (.int kk' b) K = K (.int kk (if b < a then b else a)) := rfl
theorem aSlice_own : aSlice P st t (.own id g n) none (some (.int kk j)) none K2 = optK (einfo P t) (thk (fun _ => optK st[id]? (thk (fun row => row.gen = g ∧ 0 ≤ j ∧ j ≤ n ∧ K2 (.own id (g + 1) j.toNat) (st.set id { row with gen := g + 1, xs := row.xs.take j.toNat })) ⟨⟩)) ⟨⟩) := by
  simp [aSlice, bnd, thk]
theorem aSlice_sl_hi : aSlice P st t (.sl xs) none (some (.int kk j)) none K2 = optK (einfo P t) (thk (fun ei => 0 ≤ j ∧ j ≤ xs.length ∧ (∀ x ∈ xs, x.length = ei.size) ∧ K2 (.sl (xs.take j.toNat)) st) ⟨⟩) := by
  simp [aSlice, bnd, thk]
theorem aSlice_sl_lo : aSlice P st t (.sl xs) (some (.int kk j)) none none K2 = optK (einfo P t) (thk (fun ei => 0 ≤ j ∧ j ≤ xs.length ∧ (∀ x ∈ xs, x.length = ei.size) ∧ K2 (.sl (xs.drop j.toNat)) st) ⟨⟩) := by
  simp [aSlice, bnd, thk]
end



section
variable {sel : List Nat}
theorem ren_junk : ren sel .junk = .junk := rfl
theorem ren_un : ren sel .un = .un := rfl
theorem ren_int {k : IntKind} {n : Int} : ren sel (.int k n) = .int k n := rfl
theorem ren_bool {b : Bool} : ren sel (.bool b) = .bool b := rfl
theorem ren_str {b : ByteArray} : ren sel (.str b) = .str b := rfl
theorem ren_zc : ren sel .zc = .zc := rfl
theorem ren_nilp : ren sel .nilp = .nilp := rfl
theorem ren_sl {xs : List (List AV)} : ren sel (.sl xs) = .sl xs := rfl
theorem ren_iptr {x : List AV} {off : Nat} : ren sel (.iptr x off) = .iptr x off := rfl
theorem ren_agg {cs : List AV} : ren sel (.agg cs) = .agg (cs.map (ren1 sel)) := rfl
theorem ren_tup {cs : List AV} : ren sel (.tup cs) = .tup (cs.map (ren1 sel)) := rfl
theorem ren1_int {k : IntKind} {n : Int} : ren1 sel (.int k n) = .int k n := rfl
theorem ren1_bool {b : Bool} : ren1 sel (.bool b) = .bool b := rfl
theorem ren1_zc : ren1 sel .zc = .zc := rfl
theorem ren1_sl {xs : List (List AV)} : ren1 sel (.sl xs) = .sl xs := rfl
end

section
def frzEnv (id g : Nat) (xs : List (List AV)) (e : Nat → AV) : Nat → AV := fun t => frz id g xs (e t)
variable {id g n : Nat} {xs : List (List AV)} {cs : List AV} {e : Nat → AV} {t : Nat}
theorem frzEnv_app : frzEnv id g xs e t = frz id g xs (e t) := rfl
theorem frz_own : frz id g xs (.own id g n) = .sl (xs.take n) := by simp [frz, frz1]
theorem frz1_own : frz1 id g xs (.own id g n) = .sl (xs.take n) := by simp [frz1]
theorem frz_int {k : IntKind} {m : Int} : frz id g xs (.int k m) = .int k m := rfl
theorem frz_bool {b : Bool} : frz id g xs (.bool b) = .bool b := rfl
theorem frz_sl {ys : List (List AV)} : frz id g xs (.sl ys) = .sl ys := rfl
theorem frz_zc : frz id g xs .zc = .zc := rfl
theorem frz_agg : frz id g xs (.agg cs) = .agg (cs.map (frz1 id g xs)) := rfl
theorem frz_tup : frz id g xs (.tup cs) = .tup (cs.map (frz1 id g xs)) := rfl
theorem frz1_int {k : IntKind} {m : Int} : frz1 id g xs (.int k m) = .int k m := rfl
theorem frz1_bool {b : Bool} : frz1 id g xs (.bool b) = .bool b := rfl
theorem frz1_sl {ys : List (List AV)} : frz1 id g xs (.sl ys) = .sl ys := rfl
theorem frz1_zc : frz1 id g xs .zc = .zc := rfl
theorem Wk.freezeDrop (id : Nat) {n : Nat} {e : Nat → AV} {st : List Row} {row : Row} (hrow : st[id]? = some row) (hp : pureRow row.xs) : Wk 0 ⟨n, e, st⟩ ⟨n, renEnv [] (frzEnv id row.gen row.xs e), []⟩ :=
  (Wk.freeze (k := 0) (s := ⟨n, e, st⟩) (id := id) (Nat.zero_le _) hrow hp).trans Wk.drop0
end

/-- A result that holds no row: the rows go. -/
theorem ACalls.flat {P : Program} {f : FuncId} {args : List AV} {v : AV} (hv : flat v = true) (h : ACalls P f args [] fun r _ => r = v) : ACalls P f args [] fun r st => r = v ∧ st = [] := by
  intro F os w vs hs hl
  refine (h F os w vs hs hl).mono ?_
  rintro e w' ⟨u, r, st', F', os', rfl, rfl, h1, h2, h3⟩
  refine ⟨u, r, [], F', [], rfl, ⟨rfl, rfl⟩, StoreOK.nil h1.old, rep_flat hv [] h2, ⟨h3.sys, h3.tape, h3.output, h3.size, h3.fsub, h3.fsame, fun b h4 h5 h6 => ?_, fun i o hi => absurd hi (by simp)⟩⟩
  obtain ⟨g1, g2, _⟩ := h3.other b h4 h5 h6
  exact ⟨g1, g2, by simp⟩

end Go.Abs

/- The steps of a walk that a program prints: one lemma an operation, each with its result written out. -/

/-! ### What the printed functions are made of -/
namespace Sh
open Go
def w (n : Int) : Int := IntKind.i64.wrap n
def wk (k : IntKind) (n : Int) : Int := k.wrap n
def get {α : Type} (l : List α) (j : Int) : Option α := if 0 ≤ j then l[j.toNat]? else none
def put {α : Type} (l : List α) (j : Int) (x : α) : List α := l.set j.toNat x
def len {α : Type} (l : List α) : Int := l.length
def mk {α : Type} (x : α) (j : Int) (bytes : Nat) : Option (List α) := if 0 ≤ j ∧ j * bytes ≤ 281474976710656 ∧ j ≤ 9223372036854775807 then some (List.replicate j.toNat x) else none
def app {α : Type} (l m : List α) (bytes : Nat) : Option (List α) := if (l.length + m.length) * bytes ≤ 140737488355328 ∧ l.length + m.length ≤ 9223372036854775807 then some (l ++ m) else none
def hi {α : Type} (l : List α) (j : Int) : Option (List α) := if 0 ≤ j ∧ j ≤ l.length then some (l.take j.toNat) else none
def lo {α : Type} (l : List α) (j : Int) : Option (List α) := if 0 ≤ j ∧ j ≤ l.length then some (l.drop j.toNat) else none
def sl {α : Type} (l : List α) (i j : Int) : Option (List α) := if 0 ≤ i ∧ i ≤ j ∧ j ≤ l.length then some ((l.take j.toNat).drop i.toNat) else none
def quo (a b : Int) : Option Int := if b = 0 then none else some (w (a.tdiv b))
def rem (a b : Int) : Option Int := if b = 0 then none else some (a.tmod b)
def xor (a b : Int) : Int := IntKind.i64.wrap (BitVec.ofInt 64 a ^^^ BitVec.ofInt 64 b).toNat
theorem rem_some {a b c : Int} (h : rem a b = some c) : b ≠ 0 ∧ a.tmod b = c := by
  unfold rem at h
  split at h
  · cases h
  · exact ⟨by assumption, Option.some.inj h⟩
theorem quo_some {a b c : Int} (h : quo a b = some c) : b ≠ 0 ∧ w (a.tdiv b) = c := by
  unfold quo at h
  split at h
  · cases h
  · exact ⟨by assumption, Option.some.inj h⟩

theorem get_some {α : Type} {l : List α} {j : Int} {c : α} (h : get l j = some c) : 0 ≤ j ∧ l[j.toNat]? = some c ∧ j < l.length := by
  unfold get at h
  split at h
  · rename_i h0
    have := (List.getElem?_eq_some_iff.1 h).1
    exact ⟨h0, h, by omega⟩
  · cases h
theorem bind_some {α β : Type} {x : Option α} {f : α → Option β} {r : β} (h : x.bind f = some r) : ∃ v, x = some v ∧ f v = some r := by
  cases x with
  | none => cases h
  | some v => exact ⟨v, rfl, h⟩
theorem app_some {α : Type} {l m r : List α} {b : Nat} (h : app l m b = some r) : r = l ++ m := by
  unfold app at h
  split at h
  · exact (Option.some.inj h).symm
  · cases h
theorem put_len {α : Type} {l : List α} {j : Int} {x : α} : (put l j x).length = l.length := by simp [put]
theorem some_eq {α : Type} {a b : α} (h : some a = some b) : a = b := Option.some.inj h
theorem ite_t {α : Type} {b : Bool} {x y r : α} (hb : b = true) (h : (if b = true then x else y) = r) : x = r := by rw [if_pos hb] at h; exact h
theorem ite_f {α : Type} {b : Bool} {x y r : α} (hb : b = false) (h : (if b = true then x else y) = r) : y = r := by rw [if_neg (by simp [hb])] at h; exact h
/-- What comes behind a loop: a return out of it, or the way on. -/
def cont {ρ σ β : Type} (o : Option (ρ ⊕ σ)) (g : ρ → β) (f : σ → Option β) : Option β :=
  match o with
  | none => none
  | some (.inl r) => some (g r)
  | some (.inr v) => f v
theorem cont_some {ρ σ β : Type} {o : Option (ρ ⊕ σ)} {g : ρ → β} {f : σ → Option β} {b : β} (h : cont o g f = some b) :
    ∃ v, o = some v ∧ (match v with | .inl r => some (g r) | .inr v => f v) = some b := by
  unfold cont at h
  split at h
  · cases h
  · exact ⟨_, rfl, h⟩
  · exact ⟨_, rfl, h⟩
@[simp] theorem cont_inl {ρ σ β : Type} (r : ρ) (g : ρ → β) (f : σ → Option β) : cont (some (.inl r)) g f = some (g r) := rfl
@[simp] theorem cont_inr {ρ σ β : Type} (v : σ) (g : ρ → β) (f : σ → Option β) : cont (some (.inr v)) g f = f v := rfl
theorem ite_some {α : Type} {b : Bool} {x y : Option α} {r : α} (h : (if b = true then x else y) = some r) : (b = true ∧ x = some r) ∨ (b = false ∧ y = some r) := by
  cases b
  · exact .inr ⟨rfl, h⟩
  · exact .inl ⟨rfl, h⟩
end Sh

namespace Go.Abs
open Go

/-! ### One state for another, printed -/

def envL : List (Nat × AV) → Nat → AV
  | [], _ => .junk
  | (t, v) :: r, k => if k = t then v else envL r k

/-- One value stands for another. -/
def le (a b : AV) : Prop := ∀ F w os u, Rep F w os a u → Rep F w os b u
theorem le.rfl {a : AV} : le a a := fun _ _ _ _ h => h
theorem le.of {a b : AV} (h : a = b) : le a b := h ▸ le.rfl
theorem le.junk {a : AV} : le a .junk := fun _ _ _ _ _ => by simp [Rep]
theorem le.zc : le .zc (.sl []) := fun _ _ _ _ h => by
  simp only [Rep] at h ⊢
  obtain ⟨ad, e⟩ := h
  exact ⟨ad, 0, by simpa using e, by simp, by simp⟩
def leL : List AV → List AV → Prop
  | [], [] => True
  | a :: r, b :: r' => le a b ∧ leL r r'
  | _, _ => False
theorem leL.rep {F : Nat → Prop} {w : World} {os : List Own} : ∀ {xs ys : List AV} {us : List Value}, leL xs ys → RepL F w os xs us → RepL F w os ys us
  | [], [], _, _, h => h
  | a :: r, b :: r', us, h, h' => by
    simp only [RepL] at h' ⊢
    obtain ⟨u, us', e, h1, h2⟩ := h'
    exact ⟨u, us', e, h.1 _ _ _ _ h1, leL.rep h.2 h2⟩
  | [], _ :: _, _, h, _ => h.elim
  | _ :: _, [], _, h, _ => h.elim
theorem le.agg {xs ys : List AV} (h : leL xs ys) : le (.agg xs) (.agg ys) := fun F w os u hu => by
  simp only [Rep] at hu ⊢
  obtain ⟨us, e, hl⟩ := hu
  exact ⟨us, e, h.rep hl⟩
theorem le.tup {xs ys : List AV} (h : leL xs ys) : le (.tup xs) (.tup ys) := fun F w os u hu => by
  simp only [Rep] at hu ⊢
  obtain ⟨us, e, hl⟩ := hu
  exact ⟨us, e, h.rep hl⟩

def ME (e : Nat → AV) : List (Nat × AV) → Prop
  | [] => True
  | (t, v) :: r => le (e t) v ∧ ME e r

theorem le.len {id g m m' : Nat} (h : m = m') : le (.own id g m) (.own id g m') := h ▸ le.rfl
theorem ME.le {e : Nat → AV} : ∀ {L : List (Nat × AV)}, ME e L → ∀ t, le (e t) (envL L t)
  | [], _, _ => le.junk
  | (t', v) :: r, h, t => by
    simp only [envL]
    split
    · rename_i ht; subst ht; exact h.1
    · exact ME.le h.2 t

variable {k n : Nat} {e : Nat → AV} {st st' : List Row} {L : List (Nat × AV)}

theorem Wk.envLe {e' : Nat → AV} (h : ∀ t, le (e t) (e' t)) : Wk k ⟨n, e, st⟩ ⟨n, e', st⟩ := fun F os _ w hr =>
  ⟨F, os, ⟨hr.st, fun t => h t _ _ _ _ (hr.env t), hr.size, hr.rows, hr.inj, hr.old, hr.defers⟩, Ext.refl _ _ _ _⟩

theorem Wk.to (h : ME e L) : Wk k ⟨n, e, st⟩ ⟨n, envL L, st⟩ := Wk.envLe h.le

theorem le.frz {α : Type} {id g m : Nat} {l : List α} {enc : α → List AV} (h : m = l.length) : le (frz id g (l.map enc) (.own id g m)) (.sl (l.map enc)) := by
  subst h
  refine le.of ?_
  rw [frz_own, ← List.length_map (f := enc) (as := l), List.take_length]

theorem frz1_full {α : Type} {id g m : Nat} {l : List α} {enc : α → List AV} (h : m = l.length) : frz1 id g (l.map enc) (.own id g m) = .sl (l.map enc) := by
  subst h
  rw [frz1_own, ← List.length_map (f := enc) (as := l), List.take_length]

/-- A row becomes a value. -/
theorem Wk.frz {id g size : Nat} {el : TypeId} {xs : List (List AV)} (hrow : st[id]? = some ⟨g, el, size, xs⟩) (hid : k ≤ id) (hp : pureRow xs)
    (h : ME (fun t => Abs.frz id g xs (e t)) L) (hst : st.set id ⟨g + 1, el, size, []⟩ = st') : Wk k ⟨n, e, st⟩ ⟨n, envL L, st'⟩ := by
  subst hst
  exact (Wk.freeze (s := ⟨n, e, st⟩) hid hrow hp).trans (Wk.to h)

def RSt (sel : List Nat) : List Row → Prop
  | [] => True
  | row :: r => (∀ x ∈ row.xs, ∀ c ∈ x, stays sel c = true) ∧ RSt sel r

theorem simple_stays {sel : List Nat} {c : AV} (h : simple c = true) : stays sel c = true := by
  cases c <;> simp [simple, stays] at h ⊢
theorem RSt.deep {sel : List Nat} {row : Row} {r : List Row} (h : pureRow' row.xs) (hr : RSt sel r) : RSt sel (row :: r) := ⟨fun x hx c hc => by
  have := h x hx c hc
  cases c <;> simp [simple', simple, stays] at this ⊢, hr⟩
theorem RSt.pure {sel : List Nat} {row : Row} {r : List Row} (h : pureRow row.xs) (hr : RSt sel r) : RSt sel (row :: r) := .deep h.any hr
theorem RSt.raw {sel : List Nat} {g size : Nat} {el : TypeId} {cs : List AV} {r : List Row} (h : cs.all (stays sel) = true) (hr : RSt sel r) : RSt sel (⟨g, el, size, [cs]⟩ :: r) :=
  ⟨fun x hx c hc => by
    simp only [List.mem_singleton] at hx
    subst hx
    exact List.all_eq_true.1 h c hc, hr⟩
theorem RSt.get {sel : List Nat} : ∀ {l : List Row}, RSt sel l → ∀ row ∈ l, ∀ x ∈ row.xs, ∀ c ∈ x, stays sel c = true
  | row :: r, h, row', hm => by
    rcases List.mem_cons.1 hm with rfl | hm
    · exact h.1
    · exact RSt.get h.2 row' hm

/-- Rows are dropped. -/
theorem Wk.sel (sel : List Nat) (hk : sel.take k = List.range k) (hnd : sel.Nodup) (hlt : sel.all (· < st.length) = true) (hst : pickRows st sel = st') (hr : RSt sel st') (h : ME (fun t => ren sel (e t)) L) :
    Wk k ⟨n, e, st⟩ ⟨n, envL L, st'⟩ := by
  subst hst
  refine (Wk.select (s := ⟨n, e, st⟩) sel (fun i hi => ?_) hnd (fun i hi => by simpa using List.all_eq_true.1 hlt i hi) (fun i hi row hrow => ?_)).trans (Wk.to h)
  · have h1 : (sel.take k)[i]? = some i := by rw [hk]; simp [hi]
    rw [List.getElem?_take] at h1
    simpa [hi] using h1
  · exact hr.get row (List.mem_filterMap.2 ⟨i, hi, hrow⟩)

/-- The rows' counts of turnings begin anew. -/
def rg1 (st : List Row) : AV → AV
  | .own id g n => match st[id]? with
    | some row => if row.gen = g then .own id 0 n else .junk
    | none => .junk
  | .ptr id g i off => match st[id]? with
    | some row => if row.gen = g then .ptr id 0 i off else .junk
    | none => .junk
  | .fn .. | .agg _ | .tup _ => .junk
  | v => v

def rg (st : List Row) : AV → AV
  | .fn f cs => .fn f (cs.map (rg1 st))
  | .agg cs => .agg (cs.map (rg1 st))
  | .tup cs => .tup (cs.map (rg1 st))
  | v => rg1 st v

def rgRow (st : List Row) (row : Row) : Row := { row with gen := 0, xs := row.xs.map (·.map (rg1 st)) }
def rgOwn (st : List Row) (o : Own) : Own := { o with row := rgRow st o.row }

theorem rep_rg1 {F : Nat → Prop} {w : World} {os : List Own} (hst : os.map Own.row = st) {x : AV} {v : Value} (h : Rep F w os x v) : Rep F w (os.map (rgOwn st)) (rg1 st x) v := by
  have hs : ∀ {id : Nat} {o : Own}, os[id]? = some o → st[id]? = some o.row := fun {id o} ho => by rw [← hst, List.getElem?_map, ho]; rfl
  cases x with
  | own id g n =>
    simp only [Rep] at h
    obtain ⟨o, ho, hle, hsh, hv⟩ := h
    simp only [rg1, hs ho]
    split
    · rename_i e
      obtain ⟨h1, h2⟩ := hv e
      simp only [Rep]
      exact ⟨rgOwn st o, by simp [ho], Nat.zero_le _, hsh, fun _ => ⟨by simpa [rgOwn, rgRow] using h1, h2⟩⟩
    · simp [Rep]
  | ptr id g i off =>
    simp only [Rep] at h
    obtain ⟨o, ho, hle, hsh, hv⟩ := h
    simp only [rg1, hs ho]
    split
    · rename_i e
      obtain ⟨h1, h2, h3⟩ := hv e
      simp only [Rep]
      exact ⟨rgOwn st o, by simp [ho], Nat.zero_le _, hsh, fun _ => ⟨by simpa [rgOwn, rgRow] using h1, h2, h3⟩⟩
    · simp [Rep]
  | fn f caps => simp [rg1, Rep]
  | agg cs => simp [rg1, Rep]
  | tup cs => simp [rg1, Rep]
  | _ => simp only [rg1, Rep] at h ⊢ <;> exact h

theorem repL_rg1 {F : Nat → Prop} {w : World} {os : List Own} (hst : os.map Own.row = st) {xs : List AV} {us : List Value} (h : RepL F w os xs us) : RepL F w (os.map (rgOwn st)) (xs.map (rg1 st)) us :=
  repL_mk (by simp [repL_length h]) fun i x u hx hu => by
    simp only [List.getElem?_map, Option.map_eq_some_iff] at hx
    obtain ⟨y, hy, rfl⟩ := hx
    obtain ⟨u', hu', hr⟩ := repL_get h i y hy
    rw [hu'] at hu; cases hu
    exact rep_rg1 hst hr

theorem rep_rg {F : Nat → Prop} {w : World} {os : List Own} (hst : os.map Own.row = st) {x : AV} {v : Value} (h : Rep F w os x v) : Rep F w (os.map (rgOwn st)) (rg st x) v := by
  cases x with
  | fn f cs => simp only [rg, Rep] at h ⊢; obtain ⟨us, e, hl⟩ := h; exact ⟨us, e, repL_rg1 hst hl⟩
  | agg cs => simp only [rg, Rep] at h ⊢; obtain ⟨us, e, hl⟩ := h; exact ⟨us, e, repL_rg1 hst hl⟩
  | tup cs => simp only [rg, Rep] at h ⊢; obtain ⟨us, e, hl⟩ := h; exact ⟨us, e, repL_rg1 hst hl⟩
  | _ => exact rep_rg1 hst h

def leafRows (st : List Row) : Prop := ∀ row ∈ st, ∀ x ∈ row.xs, ∀ c ∈ x, c.kept = true

theorem rg1_dv {st : List Row} {c : AV} {el s : Nat} {ys : List (List AV)} (h : rg1 st c = .dv el s ys) : c = .dv el s ys := by
  cases c <;> simp only [rg1] at h <;> first | exact h | cases h | (split at h <;> first | cases h | (split at h <;> cases h))

theorem Wk.regen (hl : leafRows (st.map (rgRow st))) : Wk 0 ⟨n, e, st⟩ ⟨n, fun t => rg st (e t), st.map (rgRow st)⟩ := fun F os a w hr => by
  have hst := hr.st
  simp only at hst
  refine ⟨F, os.map (rgOwn st), ⟨?_, fun t => rep_rg hst (hr.env t), hr.size, fun i o ho => ?_, fun i j oi oj b hi hj hbi hbj => ?_, hr.old, hr.defers⟩, ⟨rfl, rfl, rfl, Nat.le_refl _, fun _ h => h, fun _ _ => rfl, fun b _ h1 h2 => ⟨rfl, h1, fun o ho => ?_⟩, fun i o hi => absurd hi (Nat.not_lt_zero _)⟩⟩
  · simp only [← hst, List.map_map]; congr 1
  · rw [List.getElem?_map, Option.map_eq_some_iff] at ho
    obtain ⟨o0, ho0, rfl⟩ := ho
    have hok := hr.rows i o0 ho0
    have hm : rgRow st o0.row ∈ st.map (rgRow st) := List.mem_map.2 ⟨o0.row, by rw [← hst]; exact List.mem_map.2 ⟨o0, List.mem_of_getElem? ho0, rfl⟩, rfl⟩
    refine ⟨hok.pos, fun x hx => ⟨?_, hl _ hm x hx⟩, fun h => ?_, fun b hb => ?_, hok.mo, hok.deep.keep rfl (fun _ h => h) rfl (fun _ _ => rfl) (fun i x j e s ys hx hc => by
      simp only [rgOwn, rgRow, List.getElem?_map, Option.map_eq_some_iff] at hx
      obtain ⟨y, hy, rfl⟩ := hx
      simp only [List.getElem?_map, Option.map_eq_some_iff] at hc
      obtain ⟨d, hd, hc⟩ := hc
      exact ⟨y, hy, by rw [hd, rg1_dv hc]⟩)⟩
    · simp only [rgOwn, rgRow, List.mem_map] at hx
      obtain ⟨y, hy, rfl⟩ := hx
      simpa [rgOwn, rgRow] using (hok.lens y hy).1
    · obtain ⟨h1, h2⟩ := hok.none h
      exact ⟨by simp [rgOwn, rgRow, h1], h2⟩
    · obtain ⟨h1, cur, h2, h3, h4, h5, h6⟩ := hok.some b hb
      refine ⟨h1, cur, h2, h3, by simpa [rgOwn, rgRow] using h4, h5, fun i' x hx j c hc => ?_⟩
      simp only [rgOwn, rgRow, List.getElem?_map, Option.map_eq_some_iff] at hx
      obtain ⟨y, hy, rfl⟩ := hx
      simp only [List.getElem?_map, Option.map_eq_some_iff] at hc
      obtain ⟨d, hd, rfl⟩ := hc
      obtain ⟨u, e1, e2⟩ := h6 i' y hy j d hd
      exact ⟨u, e1, rep_rg1 hst e2⟩
  · rw [List.getElem?_map, Option.map_eq_some_iff] at hi hj
    obtain ⟨oi0, hi0, rfl⟩ := hi
    obtain ⟨oj0, hj0, rfl⟩ := hj
    exact hr.inj i j oi0 oj0 b hi0 hj0 hbi hbj
  · obtain ⟨o0, h0, rfl⟩ := List.mem_map.1 ho
    exact h2 o0 h0

/-- What the rows are after that, printed. -/
inductive RG (st : List Row) : List Row → List Row → Prop
  | nil : RG st [] []
  | deep {g size : Nat} {el : TypeId} {xs : List (List AV)} {r r' : List Row} (hp : pureRow' xs) (hl : RG st r r') : RG st (⟨g, el, size, xs⟩ :: r) (⟨0, el, size, xs⟩ :: r')
  | raw {g size : Nat} {el : TypeId} {cs cs' : List AV} {r r' : List Row} (hc : cs.map (rg1 st) = cs') (hp : cs'.all AV.leaf = true) (hl : RG st r r') : RG st (⟨g, el, size, [cs]⟩ :: r) (⟨0, el, size, [cs']⟩ :: r')

theorem RG.pure {g size : Nat} {el : TypeId} {xs : List (List AV)} {r r' : List Row} (hp : pureRow xs) (hl : RG st r r') : RG st (⟨g, el, size, xs⟩ :: r) (⟨0, el, size, xs⟩ :: r') := .deep hp.any hl

theorem rg1_simple {c : AV} (h : simple c = true) : rg1 st c = c ∧ (c.leaf = true ∨ c = .junk ∨ c = .un) := by
  cases c <;> simp [simple, rg1, AV.leaf] at h ⊢

theorem rg1_simple' {c : AV} (h : simple' c = true) : rg1 st c = c := by cases c <;> simp [simple', simple, rg1] at h ⊢

theorem RG.spec {st0 : List Row} (hle : ∀ row ∈ st0, ∀ x ∈ row.xs, ∀ c ∈ x, c.kept = true) : ∀ {l l' : List Row}, RG st l l' → (∀ row ∈ l, row ∈ st0) → l.map (rgRow st) = l' ∧ leafRows l'
  | _, _, .nil, _ => ⟨rfl, fun _ h => by cases h⟩
  | _, _, .deep hp hl, hm => by
    obtain ⟨h1, h2⟩ := RG.spec hle hl (fun row h => hm row (List.mem_cons_of_mem _ h))
    have hlf := hle _ (hm _ (List.mem_cons_self ..))
    refine ⟨?_, ?_⟩
    · simp only [List.map_cons, h1]
      congr 1
      simp only [rgRow]
      congr 1
      refine (List.map_congr_left (g := id) fun x hx => ?_).trans (List.map_id _)
      refine (List.map_congr_left (g := id) fun c hc => ?_).trans (List.map_id _)
      exact rg1_simple' (hp x hx c hc)
    · intro row hrow
      rcases List.mem_cons.1 hrow with rfl | h
      · exact hlf
      · exact h2 row h
  | _, _, .raw hc hp hl, hm => by
    obtain ⟨h1, h2⟩ := RG.spec hle hl (fun row h => hm row (List.mem_cons_of_mem _ h))
    refine ⟨?_, ?_⟩
    · simp only [List.map_cons, h1, rgRow, List.map_nil, hc]
    · intro row hrow
      rcases List.mem_cons.1 hrow with rfl | h
      · intro x hx c hcx
        simp only [List.mem_singleton] at hx
        subst hx
        exact AV.kept_leaf (List.all_eq_true.1 hp c hcx)
      · exact h2 row h

theorem Wk.rg (hg : RG st st st') (h : ME (fun t => Abs.rg st (e t)) L) : Wk 0 ⟨n, e, st⟩ ⟨n, envL L, st'⟩ := fun F os a w hr => by
  have hle : ∀ row ∈ st, ∀ x ∈ row.xs, ∀ c ∈ x, c.kept = true := fun row hrow x hx c hc => by
    have hst := hr.st
    simp only at hst
    rw [← hst] at hrow
    obtain ⟨o, ho, rfl⟩ := List.mem_map.1 hrow
    obtain ⟨i, hi⟩ := List.mem_iff_getElem?.1 ho
    exact ((hr.rows i o hi).lens x hx).2 c hc
  obtain ⟨h1, h2⟩ := hg.spec (st0 := st) hle (fun _ h => h)
  have h3 : Wk 0 ⟨n, e, st⟩ ⟨n, envL L, st'⟩ := by
    have := Wk.regen (n := n) (e := e) (st := st) (by rw [h1]; exact h2)
    rw [h1] at this
    exact this.trans (Wk.to h)
  exact h3 F os a w hr

theorem pure_map {α : Type} {l : List α} {enc : α → List AV} (h : ∀ x, (enc x).all simple = true) : pureRow (l.map enc) := fun x hx c hc => by
  obtain ⟨y, _, rfl⟩ := List.mem_map.1 hx
  exact List.all_eq_true.1 (h y) c hc

theorem pure_map' {α : Type} {l : List α} {enc : α → List AV} (h : ∀ x, (enc x).all simple = true) : pureRow' (l.map enc) := (pure_map h).any

theorem pure_mapD {α : Type} {l : List α} {enc : α → List AV} (h : ∀ x, (enc x).all simple' = true) : pureRow' (l.map enc) := fun x hx c hc => by
  obtain ⟨y, _, rfl⟩ := List.mem_map.1 hx
  exact List.all_eq_true.1 (h y) c hc

theorem pure_raw {cs : List AV} (h : cs.all simple = true) : pureRow [cs] := fun x hx c hc => by
  simp only [List.mem_singleton] at hx
  subst hx
  exact List.all_eq_true.1 h c hc

end Go.Abs

/- Regions, one operation after the other, each with its result written out. -/
namespace Go.Abs
open Go

variable {P : Program} {k : Nat} {ops : Array Oper} {Q : Exit → St → Prop} {ds : List (Option Tmp)} {r : List Oper} {n : Nat} {e : Nat → AV} {st st' : List Row}

/-- The rest of a region, from a state on. -/
def AO (P : Program) (k : Nat) (ops : Array Oper) (Q : Exit → St → Prop) (ds : List (Option Tmp)) (l : List Oper) (s : St) : Prop :=
  (∀ (j : Nat), l[j]? = ops[ds.length + j]?) → (∀ (j : Nat) d, ds[j]? = some d → (ops[j]?).map (·.dst) = some d) → (∀ o ∈ ops.toList, dstOK s.n o.dst = true) →
    ∀ F os a w, Rel F os s a w → ∀ Q' : Exit → Act → World → Prop, (∀ e a' w', Post k Q F os w e a' w' → Q' e a' w') → wpList P ops Q' l a w

theorem AO.done {s : St} (h : Q .normal s) : AO P k ops Q ds [] s := fun _ _ _ F os a w hr Q' hQ => hQ _ a w ⟨s, F, os, h, hr, Ext.refl _ _ _ _⟩

theorem AO.step {s : St} {o : Oper} (h : aguard ds o s (astep P k o s (AO P k ops Q (ds ++ [o.dst]) r)) (AO P k ops Q (ds ++ [o.dst]) r (s.put o.dst .un))) : AO P k ops Q ds (o :: r) s := by
  intro hl hds hdst F os a w hr Q' hQ
  have ho : ops[ds.length]? = some o := by have := hl 0; simpa using this.symm
  have hod : dstOK s.n o.dst = true := hdst o (by have := List.mem_of_getElem? (l := ops.toList) (i := ds.length) (by simpa using ho); exact this)
  have hdn : ∀ d ∈ ds, dstOK s.n d = true := fun d hd => by
    obtain ⟨j, hj⟩ := List.mem_iff_getElem?.1 hd
    have h1 := hds j d hj
    cases hoj : ops[j]? with
    | none => rw [hoj] at h1; cases h1
    | some oj =>
      rw [hoj] at h1
      simp only [Option.map_some, Option.some.injEq] at h1
      subst h1
      exact hdst oj (by have := List.mem_of_getElem? (l := ops.toList) (i := j) (by simpa using hoj); exact this)
  have hl' : ∀ (j : Nat), r[j]? = ops[(ds ++ [o.dst]).length + j]? := fun j => by
    have := hl (j + 1)
    simp only [List.getElem?_cons_succ] at this
    rw [this]; congr 1; simp; omega
  have hds' : ∀ (j : Nat) d, (ds ++ [o.dst])[j]? = some d → (ops[j]?).map (·.dst) = some d := fun j d hj => by
    rcases Nat.lt_trichotomy j ds.length with h1 | h1 | h1
    · rw [List.getElem?_append_left h1] at hj; exact hds j d hj
    · subst h1; rw [new_get, Option.some.injEq] at hj; rw [ho]; simp [hj]
    · rw [List.getElem?_eq_none (by simp; omega)] at hj; cases hj
  unfold wpList
  rcases aguard_ok hr hds hdn h with ⟨hw, h1⟩ | ⟨hw, h1⟩
  · rw [if_pos hw]
    refine .inl (astep_ok hr hod h1 ?_)
    rintro a' w' ⟨s2, F2, os2, hn2, hK, hR2, hE2⟩
    exact hK hl' hds' (by rw [hn2]; exact hdst) F2 os2 a' w' hR2 Q' fun _ _ _ hp => hQ _ _ _ (hp.trans hE2)
  · rw [if_neg (by simp [hw])]
    exact h1 hl' hds' (by rw [St.put_n]; exact hdst) F os _ w (hr.un hod) Q' hQ

theorem AO.weaken {s s' : St} {l : List Oper} (hw : Wk k s s') (h : AO P k ops Q ds l s') : AO P k ops Q ds l s := fun hl hds hdst F os a w hr Q' hQ => by
  obtain ⟨F1, os1, h1, e1⟩ := hw F os a w hr
  have hn : s'.n = s.n := by rw [← h1.size, ← hr.size]
  exact h hl hds (by rw [hn]; exact hdst) F1 os1 a w h1 Q' fun _ _ _ hp => hQ _ _ _ (hp.trans e1)

theorem AW.regionO {id : Nat} {s : St} (hd : (ops.toList.all fun o => dstOK s.n o.dst) = true) (h : AO P k ops Q [] ops.toList s) : AW P k (.region id ops false) Q s := by
  intro F os a w hr
  refine wp_region ?_
  have e : List.range ops.size = List.range' 0 ops.toList.length := by rw [List.range_eq_range']; simp
  rw [e, wpOps_eq_wpList (ops := ops) ops.toList 0 (by simp)]
  exact h (by simp) (by simp) (fun o ho => List.all_eq_true.1 hd o ho) F os a w hr _ fun _ _ _ hp => hp

theorem AW.drawTailO {id : Nat} {s : St} (m : Nat) (hm : P.follows .mixedOrders = true) (hB : Region.lexTailB .any ops m = true) (hd : (ops.toList.all fun o => dstOK s.n o.dst) = true)
    (h : dops P [] (ops.toList.take m) (fun s' => AO P k ops Q ((ops.toList.take m).map (·.dst)) (ops.toList.drop m) s') s) : AW P k (.region id ops true) Q s := by
  simp only [Region.lexTailB, Bool.and_eq_true, decide_eq_true_eq] at hB
  obtain ⟨⟨⟨⟨_, hn⟩, hs⟩, hc⟩, hlex⟩ := hB
  intro F os a w hr
  obtain ⟨hr1, he1⟩ := hr.drew (k := k)
  refine wp_region_any hm ?_
  have htl : (ops.toList.take m).length = m := by simp; omega
  have hdl : (ops.toList.drop m).length = ops.size - m := by simp
  have H := anyL_lex (md := .any) (ops := ops) (n := m) (g := ops.size - m) (P := P) (K := fun s' => AO P k ops Q ((ops.toList.take m).map (·.dst)) (ops.toList.drop m) s')
    (fun listed inv i hi hun t ht => tail_waits hs hc hn inv _ i rfl hi hun t ht) (ops.toList.take m) [] _ s (fun j hj => by
      rw [htl] at hj; rw [List.getElem?_take, if_pos hj]; simp) (by simp) (by simpa using htl) (headInv0 _) (by rw [htl]; exact hlex) h
  have := wpAny_of_anyL (k := k) (g := ops.size - m) (N := s.n) (Q' := Post k Q F os w) (F0 := F) (os0 := os) (w0 := w) (fun o ho => List.all_eq_true.1 hd o ho) (fun listed s' F' os' a' w' hn' hL hr' he => by
    have h1 := hL.2 (fun j => by
        rw [List.length_map, htl, List.getElem?_drop]; simp) (fun j d hj => by
        simp only [List.getElem?_map, List.getElem?_take] at hj
        split at hj
        · simpa using hj
        · cases hj) (by rw [hn']; exact fun o ho => List.all_eq_true.1 hd o ho) F' os' a' w' hr' (Post k Q F os w) fun _ _ _ hp => Post.trans he hp
    have h2 := wpAny_of_seq (md := .any) (Q' := Post k Q F os w) (ops.toList.drop m) m listed a' w' (fun j => by simp [List.getElem?_drop]) (by rw [hdl]; exact hL.1) h1
    rwa [hdl] at h2) _ _ s F os a w.drew rfl H hr1 he1
  rw [htl, show m + (ops.size - m) = ops.size by omega] at this
  exact this

end Go.Abs

/- The operations, each with its result written out. -/
namespace Go.Abs
open Go

/-- This operation yields this value and leaves memory alone. -/
def AQ (P : Program) (s : St) (op : Op) (v : AV) : Prop := ∀ K : AV → Prop, K v → aquiet P s op K

/-- What lies behind a slice. -/
def EL (st : List Row) (v : AV) (ys : List (List AV)) : Prop := ∀ K : List (List AV) → Prop, K ys → aElems st v K

section
variable {P : Program} {s : St} {x y z c : Operand} {v : AV} {t t' : TypeId} {kk : IntKind} {a b : Int} {p q : Bool}

theorem aq_mv (h : s.ev x = v) : AQ P s (.move x) v := fun K hk => by show K (s.ev x); rw [h]; exact hk
theorem aq_as (h : s.ev x = v) : AQ P s (.assign x) v := fun K hk => by show K (s.ev x); rw [h]; exact hk
theorem aPick_t {x y : AV} {K : AV → Prop} (h : K x) : aPick (.bool true) x y K := by
  cases x <;> cases y <;> first | exact h | exact ⟨fun _ => h, fun h => by cases h⟩
theorem aPick_f {x y : AV} {K : AV → Prop} (h : K y) : aPick (.bool false) x y K := by
  cases x <;> cases y <;> first | exact h | exact ⟨fun h => (by cases h), fun _ => h⟩
theorem aq_pkt (hc : s.ev c = .bool p) (hp : p = true) (hx : s.ev x = v) : AQ P s (.pick c x y) v := fun K hk => by
  show aPick (s.ev c) (s.ev x) (s.ev y) K
  rw [hc, hp, hx]; exact aPick_t hk
theorem aq_pkf (hc : s.ev c = .bool p) (hp : p = false) (hy : s.ev y = v) : AQ P s (.pick c x y) v := fun K hk => by
  show aPick (s.ev c) (s.ev x) (s.ev y) K
  rw [hc, hp, hy]; exact aPick_f hk

variable (hx : s.ev x = .int kk a) (hy : s.ev y = .int kk b)
include hx hy
theorem aq_int {op : BinOp} (h : ∀ K : AV → Prop, K v → aInt op kk a b K) : AQ P s (.binOp op t x y t') v := fun K hk => by
  show aBin P t op (s.ev x) (s.ev y) K
  rw [hx, hy]; exact ⟨rfl, h K hk⟩
theorem aq_addk : AQ P s (.binOp .add t x y t') (.int kk (Sh.wk kk (a + b))) := aq_int hx hy fun _ hk => hk
theorem aq_subk : AQ P s (.binOp .sub t x y t') (.int kk (Sh.wk kk (a - b))) := aq_int hx hy fun _ hk => hk
theorem aq_mulk : AQ P s (.binOp .mul t x y t') (.int kk (Sh.wk kk (a * b))) := aq_int hx hy fun _ hk => hk
theorem aq_quok (h : b ≠ 0) : AQ P s (.binOp .quo t x y t') (.int kk (Sh.wk kk (a.tdiv b))) := aq_int hx hy fun _ hk => ⟨h, hk⟩
theorem aq_rem (h : b ≠ 0) : AQ P s (.binOp .rem t x y t') (.int kk (a.tmod b)) := aq_int hx hy fun _ hk => ⟨h, hk⟩
theorem aq_remv {q : Int} (h : Sh.rem a b = some q) : AQ P s (.binOp .rem t x y t') (.int kk q) := aq_int hx hy fun _ hk => by
  obtain ⟨h1, rfl⟩ := Sh.rem_some h
  exact ⟨h1, hk⟩
theorem aq_lt : AQ P s (.binOp .lss t x y t') (.bool (decide (a < b))) := aq_int hx hy fun _ hk => hk
theorem aq_le : AQ P s (.binOp .leq t x y t') (.bool (decide (a ≤ b))) := aq_int hx hy fun _ hk => hk
theorem aq_gt : AQ P s (.binOp .gtr t x y t') (.bool (decide (b < a))) := aq_int hx hy fun _ hk => hk
theorem aq_ge : AQ P s (.binOp .geq t x y t') (.bool (decide (b ≤ a))) := aq_int hx hy fun _ hk => hk
theorem aq_eq : AQ P s (.binOp .eql t x y t') (.bool (decide (a = b))) := aq_int hx hy fun _ hk => hk
theorem aq_ne : AQ P s (.binOp .neq t x y t') (.bool (!decide (a = b))) := aq_int hx hy fun _ hk => hk
end

section
variable {P : Program} {s : St} {x y z c : Operand} {v : AV} {t t' : TypeId} {kk : IntKind} {a b : Int} {p q : Bool}
variable (hx : s.ev x = i64 a) (hy : s.ev y = i64 b)
include hx hy
theorem aq_add : AQ P s (.binOp .add t x y t') (i64 (Sh.w (a + b))) := aq_int hx hy fun _ hk => hk
theorem aq_sub : AQ P s (.binOp .sub t x y t') (i64 (Sh.w (a - b))) := aq_int hx hy fun _ hk => hk
theorem aq_mul : AQ P s (.binOp .mul t x y t') (i64 (Sh.w (a * b))) := aq_int hx hy fun _ hk => hk
theorem aq_xor : AQ P s (.binOp .xor t x y t') (i64 (Sh.xor a b)) := aq_int hx hy fun _ hk => hk
theorem aq_quov {q : Int} (h : Sh.quo a b = some q) : AQ P s (.binOp .quo t x y t') (i64 q) := aq_int hx hy fun _ hk => by
  obtain ⟨h1, rfl⟩ := Sh.quo_some h
  exact ⟨h1, hk⟩
theorem aq_quo (h : b ≠ 0) : AQ P s (.binOp .quo t x y t') (i64 (Sh.w (a.tdiv b))) := aq_int hx hy fun _ hk => ⟨h, hk⟩
end

section
variable {P : Program} {s : St} {x y z c : Operand} {v : AV} {t t' : TypeId} {kk kk' : IntKind} {a b : Int} {p q ag : Bool} {id g i off off' f size sz bytes m j : Nat} {cs vs : List AV} {xs : List (List AV)} {el : TypeId}
theorem aq_beq (ht : isBoolT P t = true) (hx : s.ev x = .bool p) (hy : s.ev y = .bool q) : AQ P s (.binOp .eql t x y t') (.bool (p == q)) := fun K hk => by
  show aBin P t .eql (s.ev x) (s.ev y) K
  rw [hx, hy]; exact ⟨ht, hk⟩
theorem aq_bne (ht : isBoolT P t = true) (hx : s.ev x = .bool p) (hy : s.ev y = .bool q) : AQ P s (.binOp .neq t x y t') (.bool (p != q)) := fun K hk => by
  show aBin P t .neq (s.ev x) (s.ev y) K
  rw [hx, hy]; exact ⟨ht, hk⟩
theorem aq_not (hx : s.ev x = .bool p) : AQ P s (.unOp .not t x) (.bool (!p)) := fun K hk => by
  show aUn .not (s.ev x) K
  rw [hx]; exact hk
theorem aq_neg (hx : s.ev x = i64 a) : AQ P s (.unOp .neg t x) (i64 (Sh.w (-a))) := fun K hk => by
  show aUn .neg (s.ev x) K
  rw [hx]; exact hk
/-- A conversion's kind. -/
def cinfo (P : Program) (src dst : TypeId) : Option IntKind :=
  match P.underlying src, P.underlying dst with
  | some _, some (.int k) => some k
  | _, _ => none
theorem aq_cv (hc : cinfo P t t' = some kk') (hx : s.ev x = .int kk a) : AQ P s (.convert t t' x) (.int kk' (Sh.wk kk' a)) := fun K hk => by
  show aConv P t t' (s.ev x) K
  rw [hx]
  unfold cinfo at hc
  unfold aConv
  split at hc
  · rename_i h1 h2
    simp only [Option.some.injEq] at hc
    subst hc
    simp only [h1, h2]; exact hk
  · cases hc
theorem aq_ex (hx : s.ev x = .tup vs) (hv : vs[i]? = some v) : AQ P s (.extract x i) v := fun K hk => by
  show aExtract (s.ev x) i K
  rw [hx]; exact optK_intro v hv hk
theorem aq_max (hx : s.ev x = .int kk a) (hy : s.ev y = .int kk b) {ts : Array TypeId} : AQ P s (.call ⟨.builtin .max, #[x, y], ts⟩) (.int kk (if b > a then b else a)) := fun K hk => by
  show aMax (s.ev x) (s.ev y) K
  rw [hx, hy]; exact hk
theorem aq_min (hx : s.ev x = .int kk a) (hy : s.ev y = .int kk b) {ts : Array TypeId} : AQ P s (.call ⟨.builtin .min, #[x, y], ts⟩) (.int kk (if b < a then b else a)) := fun K hk => by
  show aMin (s.ev x) (s.ev y) K
  rw [hx, hy]; exact hk
theorem aq_fn {fn : FuncId} {caps : Array Operand} (hc : caps.toList.map s.ev = cs) : AQ P s (.makeFunc (.func fn) #[] caps) (.fn fn cs) := fun K hk => by
  subst hc; exact ⟨rfl, hk⟩

-- loads
theorem aq_ldi (ht : tinfo P t = some (false, sz)) (hx : s.ev x = .iptr cs off) (hv : cs[off]? = some v) : AQ P s (.load t x) v := fun K hk => by
  show aLoad P s.st t (s.ev x) K
  rw [hx]; exact optK_intro _ ht (optK_intro v hv hk)
theorem aq_ldia (ht : tinfo P t = some (true, sz)) (hx : s.ev x = .iptr cs off) (hl : off + sz ≤ cs.length) (hv : (cs.drop off).take sz = vs) : AQ P s (.load t x) (.agg vs) := fun K hk => by
  show aLoad P s.st t (s.ev x) K
  rw [hx]; subst hv; exact optK_intro _ ht ⟨hl, hk⟩
theorem aq_ldp (ht : tinfo P t = some (false, sz)) (hx : s.ev x = .ptr id g i off) (hr : s.st[id]? = some ⟨g, el, size, xs⟩) (hi : xs[i]? = some cs) (hv : cs[off]? = some v) : AQ P s (.load t x) v := fun K hk => by
  show aLoad P s.st t (s.ev x) K
  rw [hx]; exact optK_intro _ ht (optK_intro _ hr ⟨rfl, optK_intro cs hi (optK_intro v hv hk)⟩)
theorem aq_ldpa (ht : tinfo P t = some (true, sz)) (hx : s.ev x = .ptr id g i off) (hr : s.st[id]? = some ⟨g, el, size, xs⟩) (hi : xs[i]? = some cs) (hl : off + sz ≤ cs.length) (hv : (cs.drop off).take sz = vs) : AQ P s (.load t x) (.agg vs) := fun K hk => by
  show aLoad P s.st t (s.ev x) K
  rw [hx]; subst hv; exact optK_intro _ ht (optK_intro _ hr ⟨rfl, optK_intro cs hi ⟨hl, hk⟩⟩)
theorem aq_fai (hf : finfo P t f = some j) (hx : s.ev x = .iptr cs off) (ho : off + j = off') : AQ P s (.fieldAddr t x f) (.iptr cs off') := fun K hk => by
  show aFieldAddr P t (s.ev x) f s.st K
  rw [hx]; subst ho; exact optK_intro _ hf hk
theorem aq_fap (hf : finfo P t f = some j) (hx : s.ev x = .ptr id g i off) (hr : s.st[id]? = some ⟨g, el, size, xs⟩) (hl : off + j ≤ size) (ho : off + j = off') : AQ P s (.fieldAddr t x f) (.ptr id g i off') := fun K hk => by
  show aFieldAddr P t (s.ev x) f s.st K
  rw [hx]; subst ho; exact optK_intro _ hf (optK_intro _ hr ⟨rfl, hl, hk⟩)

/-- A field of a value: where it lies, of which kind, how many cells. -/
def vinfo (P : Program) (t : TypeId) (f : Nat) : Option (Nat × Bool × Nat) :=
  match P.underlying t with
  | some (.struct fs) => match fs[f]? with
    | some g => match tinfo P g.type with
      | some ti => some (g.offset, ti)
      | none => none
    | none => none
  | _ => none
theorem aField_of {f : Nat} {o : Nat} {ti : Bool × Nat} {K : AV → Prop} (h : vinfo P t f = some (o, ti)) (hk : aPart ti.1 ti.2 cs o K) : aField P t (.agg cs) f K := by
  unfold vinfo at h
  unfold aField
  split at h
  · rename_i fs hu
    split at h
    · rename_i gg hg
      split at h
      · rename_i ti' ht
        simp only [Option.some.injEq, Prod.mk.injEq] at h
        obtain ⟨rfl, rfl⟩ := h
        rw [hu]
        exact optK_intro _ hg (optK_intro _ ht hk)
      · cases h
    · cases h
  · cases h
theorem aq_fd (hf : vinfo P t f = some (off, false, sz)) (hx : s.ev x = .agg cs) (hv : cs[off]? = some v) : AQ P s (.field t x f) v := fun K hk => by
  show aField P t (s.ev x) f K
  rw [hx]; exact aField_of hf (optK_intro v hv hk)
theorem aq_fda (hf : vinfo P t f = some (off, true, sz)) (hx : s.ev x = .agg cs) (hl : off + sz ≤ cs.length) (hv : (cs.drop off).take sz = vs) : AQ P s (.field t x f) (.agg vs) := fun K hk => by
  show aField P t (s.ev x) f K
  rw [hx]; subst hv; exact aField_of hf ⟨hl, hk⟩

variable {α : Type} {l l' : List α} {enc : α → List AV} {n : Int} {zz : List AV} {u : α}
theorem map_get (h : Sh.get l n = some u) : (l.map enc)[n.toNat]? = some (enc u) := by
  rw [List.getElem?_map, (Sh.get_some h).2.1]; rfl
theorem aq_ixs (he : einfo P t = some ⟨el, size, bytes, zz⟩) (hx : s.ev x = .sl (l.map enc)) (hy : s.ev y = .int kk n) (hg : Sh.get l n = some u) (hs : (enc u).length = size) : AQ P s (.indexAddr t x y) (.iptr (enc u) 0) := fun K hk => by
  show aIndexAddr P s.st t (s.ev x) (s.ev y) K
  rw [hx, hy]; exact optK_intro _ he ⟨(Sh.get_some hg).1, optK_intro _ (map_get hg) ⟨hs, hk⟩⟩
theorem aq_ixo (he : einfo P t = some ⟨el, size, bytes, zz⟩) (hx : s.ev x = .own id g m) (hy : s.ev y = .int kk n) (hr : s.st[id]? = some ⟨g, el, size, l.map enc⟩) (hm : m = l.length) (hg : Sh.get l n = some u) :
    AQ P s (.indexAddr t x y) (.ptr id g n.toNat 0) := fun K hk => by
  show aIndexAddr P s.st t (s.ev x) (s.ev y) K
  rw [hx, hy]; subst hm; exact optK_intro _ he ⟨(Sh.get_some hg).1, (Sh.get_some hg).2.2, optK_intro _ hr ⟨rfl, rfl, hk⟩⟩
theorem aq_lens (hs : isSliceT P t = true) (hx : s.ev x = .sl (l.map enc)) : AQ P s (.call ⟨.builtin .len, #[x], #[t]⟩) (i64 (Sh.len l)) := fun K hk => by
  refine ⟨hs, ?_⟩
  rw [hx]; simp only [aLen, List.length_map]; exact hk
theorem aq_leno (hs : isSliceT P t = true) (hx : s.ev x = .own id g m) (hr : s.st[id]? = some ⟨g, el, size, l.map enc⟩) (hm : m = l.length) : AQ P s (.call ⟨.builtin .len, #[x], #[t]⟩) (i64 (Sh.len l)) := fun K hk => by
  refine ⟨hs, ?_⟩
  subst hm
  rw [hx]; exact optK_intro _ hr ⟨rfl, hk⟩
theorem aq_lenz (hs : isSliceT P t = true) (hx : s.ev x = .zc) : AQ P s (.call ⟨.builtin .len, #[x], #[t]⟩) (i64 0) := fun K hk => by
  refine ⟨hs, ?_⟩
  rw [hx]; exact hk
theorem aq_nck (hx : s.ev x = .ptr id g i off) (hr : s.st[id]? = some ⟨g, el, size, xs⟩) : AQ P s (.nilCheck x) (.ptr id g i off) := fun K hk => by
  show aNil s.st (s.ev x) K
  rw [hx]; exact optK_intro _ hr ⟨rfl, hk⟩
theorem aq_nci (hx : s.ev x = .iptr cs off) : AQ P s (.nilCheck x) (.iptr cs off) := fun K hk => by
  show aNil s.st (s.ev x) K
  rw [hx]; exact hk
theorem aq_bd {parts : Array (Nat × Operand)} {fs : List (Nat × Nat)} {pv : List (Nat × AV)} (ha : allInfo P t = true) (hf : finfos P t = some fs) (hz : zinfo P t = some zz) (hp : (parts.toList.map fun p => (p.1, s.ev p.2)) = pv) (hc : afill (fs[·]?) zz pv = some cs) :
    AQ P s (.build t parts) (.agg cs) := fun K hk => by
  show aBuild P t (parts.toList.map fun p => (p.1, s.ev p.2)) K
  rw [hp]; exact ⟨ha, optK_intro _ hf (optK_intro _ hz (optK_intro _ hc hk))⟩

variable {st : List Row} {ys : List (List AV)}
theorem el_s : EL st (.sl ys) ys := fun _ hk => hk
theorem el_z : EL st .zc [] := fun _ hk => hk
theorem el_o (hr : st[id]? = some ⟨g, el, size, l.map enc⟩) (hm : m = l.length) (hlf : ∀ x, (enc x).all AV.leaf = true := by exact fun _ => rfl) : EL st (.own id g m) (l.map enc) := fun K hk => by
  subst hm
  refine optK_intro _ hr ⟨rfl, fun y hy c hc => ?_, ?_⟩
  · obtain ⟨x, _, rfl⟩ := List.mem_map.1 hy
    exact List.all_eq_true.1 (hlf x) c hc
  rw [← List.length_map (f := enc) (as := l), List.take_length]; exact hk
end

/-! ### A step of a region -/

section
variable {P : Program} {k : Nat} {ops : Array Oper} {Q : Exit → St → Prop} {ds : List (Option Tmp)} {r : List Oper} {n : Nat} {e : Nat → AV} {st st' : List Row} {op : Op} {ty : TypeId} {ps : String} {ed : Array Edge} {d : Option Tmp} {t : Tmp} {v v' : AV}
variable {jj : Nat} {want b : Bool} {tg : Tmp} {gd : Option (Nat × Bool)}

/-- This operation is carried out. -/
def GO (ds : List (Option Tmp)) (gd : Option (Nat × Bool)) (e : Nat → AV) : Prop :=
  match gd with
  | none => True
  | some (jj, want) => ∃ tg, ds[jj]? = some (some tg) ∧ e tg = .bool want
theorem go0 : GO ds none e := trivial
theorem go1 (hj : ds[jj]? = some (some tg)) (ht : e tg = .bool b) (hb : b = want) : GO ds (some (jj, want)) e := ⟨tg, hj, by rw [ht, hb]⟩

theorem GO.guard {A B : Prop} (hg : GO ds gd e) (h : A) : aguard ds ⟨d, op, ty, ps, ed, gd⟩ ⟨n, e, st⟩ A B := by
  unfold GO at hg
  unfold aguard
  cases gd with
  | none => exact h
  | some q =>
    obtain ⟨jj, want⟩ := q
    obtain ⟨tg, hj, ht⟩ := hg
    simp only [hj, ht, aGd]
    exact ⟨fun _ => h, fun hh => absurd rfl hh⟩

theorem ao_q (hg : GO ds gd e) (hl : isLoud op = false) (hq : AQ P ⟨n, e, st⟩ op v) (hk : AO P k ops Q (ds ++ [some t]) r ⟨n, upd e t v, st⟩) : AO P k ops Q ds (⟨some t, op, ty, ps, ed, gd⟩ :: r) ⟨n, e, st⟩ := by
  refine AO.step (hg.guard ?_)
  unfold astep
  simp only [hl, Bool.false_eq_true, if_false]
  exact hq _ hk

theorem ao_a (hg : GO ds gd e) (h : astep P k ⟨d, op, ty, ps, ed, gd⟩ ⟨n, e, st⟩ (AO P k ops Q (ds ++ [d]) r)) : AO P k ops Q ds (⟨d, op, ty, ps, ed, gd⟩ :: r) ⟨n, e, st⟩ :=
  AO.step (hg.guard h)

theorem ao_skip (hj : ds[jj]? = some (some tg)) (ht : e tg = .bool b) (hb : b = !want) (h : AO P k ops Q (ds ++ [some t]) r ⟨n, upd e t .un, st⟩) : AO P k ops Q ds (⟨some t, op, ty, ps, ed, some (jj, want)⟩ :: r) ⟨n, e, st⟩ := by
  refine AO.step ?_
  subst hb
  simp only [aguard, hj, ht, aGd]
  exact ⟨fun h => (by cases want <;> cases h), fun _ => h⟩

theorem ao_none (hj : ds[jj]? = some (some tg)) (ht : e tg = .un) (h : AO P k ops Q (ds ++ [some t]) r ⟨n, upd e t .un, st⟩) : AO P k ops Q ds (⟨some t, op, ty, ps, ed, some (jj, want)⟩ :: r) ⟨n, e, st⟩ := by
  refine AO.step ?_
  simp only [aguard, hj, ht, aGd]
  exact h

-- the same in a head that draws its order
variable {KS : St → Prop}
theorem d_q (hg : GO ds gd e) (hl : isLoud op = false) (hq : AQ P ⟨n, e, st⟩ op v) (hk : dops P (ds ++ [some t]) r KS ⟨n, upd e t v, st⟩) : dops P ds (⟨some t, op, ty, ps, ed, gd⟩ :: r) KS ⟨n, e, st⟩ := by
  refine hg.guard ?_
  unfold dstep
  simp only [hl, Bool.false_eq_true, if_false]
  exact hq _ hk
theorem d_l (hg : GO ds gd e) (hl : isLoud op = true) (hq : ∀ s0 : St, s0.st = st → (∀ x ∈ op.operands, s0.ev x = St.ev ⟨n, e, st⟩ x) → dstOK s0.n (some t) = true → Yl P ⟨some t, op, ty, ps, ed, gd⟩ s0 v) (hk : dops P (ds ++ [some t]) r KS ⟨n, upd e t v, st⟩) : dops P ds (⟨some t, op, ty, ps, ed, gd⟩ :: r) KS ⟨n, e, st⟩ := by
  refine hg.guard ?_
  unfold dstep
  simp only [hl, if_true]
  exact ⟨v, hq, hk⟩
theorem d_skip (hj : ds[jj]? = some (some tg)) (ht : e tg = .bool b) (hb : b = !want) (h : dops P (ds ++ [some t]) r KS ⟨n, upd e t .un, st⟩) : dops P ds (⟨some t, op, ty, ps, ed, some (jj, want)⟩ :: r) KS ⟨n, e, st⟩ := by
  subst hb
  simp only [dops, aguard, hj, ht, aGd]
  exact ⟨fun h => (by cases want <;> cases h), fun _ => h⟩
theorem d_none (hj : ds[jj]? = some (some tg)) (ht : e tg = .un) (h : dops P (ds ++ [some t]) r KS ⟨n, upd e t .un, st⟩) : dops P ds (⟨some t, op, ty, ps, ed, some (jj, want)⟩ :: r) KS ⟨n, e, st⟩ := by
  simp only [dops, aguard, hj, ht, aGd]
  exact h
theorem d_done {s : St} (h : KS s) : dops P ds [] KS s := h
theorem ev_args {ars : Array Operand} {f : FuncId} {ts : Array TypeId} {s0 s1 : St} (h : ∀ x ∈ (Op.call ⟨.value (.func f), ars, ts⟩).operands, s0.ev x = s1.ev x) : ars.toList.map s0.ev = ars.toList.map s1.ev :=
  List.map_congr_left fun x hx => h x (by simp [Op.operands, Call.operands]; right; simpa using hx)
theorem d_call {f : FuncId} {ars : Array Operand} {ts : Array TypeId} {args : List AV} (hg : GO ds gd e) (hb : hasBody P f = true) (hc : ACalls P f args [] fun r st => r = v ∧ st = []) (ha : ars.toList.map (St.ev ⟨n, e, st⟩) ++ [] = args) (hf : args.all flat = true) (hv : flat v = true)
    (hk : dops P (ds ++ [some t]) r KS ⟨n, upd e t v, st⟩) : dops P ds (⟨some t, .call ⟨.value (.func f), ars, ts⟩, ty, ps, ed, gd⟩ :: r) KS ⟨n, e, st⟩ := by
  refine d_l hg rfl (fun s0 e1 e2 hd k F os a w hr next Q hn => ?_) hk
  refine aloud_ok (k := k) (K := (· = s0.put (some t) v)) hr hd ?_ hn
  show hasBody P f = true ∧ callThen P k s0 f (ars.toList.map s0.ev ++ []) (some t) _
  rw [ev_args e2, ha]
  exact ⟨hb, callThen_quiet hc hf hv rfl⟩

/-! #### Rows -/

variable {α : Type} {l l' l2 : List α} {enc : α → List AV} {kk kk' : IntKind} {j : Int} {el T : TypeId} {size bytes sz id g i m off : Nat} {zz cs us : List AV} {x y : Operand} {xs : List (List AV)} {ag : Bool} {u u' : α}

theorem ao_alloc (hg : GO ds gd e) (hz : zinfo P T = some zz) (hm : st.length = m) (hst : st ++ [⟨0, T, zz.length, [zz]⟩] = st') (hk : AO P k ops Q (ds ++ [some t]) r ⟨n, upd e t (.ptr m 0 0 0), st'⟩) : AO P k ops Q ds (⟨some t, .alloc T, ty, ps, ed, gd⟩ :: r) ⟨n, e, st⟩ := by
  subst hm; subst hst
  exact ao_a hg (optK_intro _ hz hk)
theorem ao_box (hg : GO ds gd e) (hx : St.ev ⟨n, e, st⟩ x = v) (hc : cellsV v = some cs) (hne : cs.isEmpty = false) (hm : st.length = m) (hst : st ++ [⟨0, T, cs.length, [cs]⟩] = st') (hk : AO P k ops Q (ds ++ [some t]) r ⟨n, upd e t (.ptr m 0 0 0), st'⟩) : AO P k ops Q ds (⟨some t, .box T x, ty, ps, ed, gd⟩ :: r) ⟨n, e, st⟩ := by
  subst hm; subst hst; subst hx
  exact ao_a hg (optK_intro _ hc ⟨(by intro h; rw [h] at hne; cases hne), hk⟩)
theorem ao_str (hg : GO ds gd e) (ht : tinfo P T = some (ag, sz)) (hx : St.ev ⟨n, e, st⟩ x = .ptr id g i off) (hr : st[id]? = some ⟨g, el, size, xs⟩) (hi : xs[i]? = some zz) (hv : St.ev ⟨n, e, st⟩ y = v) (hc : cellsV v = some cs) (hn : cs.length = sz) (hle : off + cs.length ≤ size)
    (hst : st.set id ⟨g, el, size, xs.set i (splice zz off cs)⟩ = st') (hk : AO P k ops Q (ds ++ [none]) r ⟨n, e, st'⟩) : AO P k ops Q ds (⟨none, .store T x y, ty, ps, ed, gd⟩ :: r) ⟨n, e, st⟩ := by
  subst hst; subst hv
  refine ao_a hg ?_
  rw [st_store, hx]; exact optK_intro _ ht (optK_intro _ hr ⟨rfl, optK_intro _ hi (optK_intro _ hc ⟨hn, hle, hk⟩)⟩)
theorem map_put {j : Int} : (l.map enc).set j.toNat (enc u) = (Sh.put l j u).map enc := by simp [Sh.put, List.map_set]
theorem ao_stl (hg : GO ds gd e) (ht : tinfo P T = some (ag, sz)) (hx : St.ev ⟨n, e, st⟩ x = .ptr id g j.toNat off) (hr : st[id]? = some ⟨g, el, size, l.map enc⟩) (hi : Sh.get l j = some u) (hv : St.ev ⟨n, e, st⟩ y = v) (hc : cellsV v = some cs) (hn : cs.length = sz) (hle : off + cs.length ≤ size)
    (hsp : splice (enc u) off cs = enc u') (hst : st.set id ⟨g, el, size, (Sh.put l j u').map enc⟩ = st') (hk : AO P k ops Q (ds ++ [none]) r ⟨n, e, st'⟩) : AO P k ops Q ds (⟨none, .store T x y, ty, ps, ed, gd⟩ :: r) ⟨n, e, st⟩ :=
  ao_str hg ht hx hr (map_get hi) hv hc hn hle (by rw [hsp, map_put]; exact hst) hk
theorem ao_make (hg : GO ds gd e) (he : einfo P T = some ⟨el, size, bytes, zz⟩) (hx : St.ev ⟨n, e, st⟩ x = .int kk j) (hy : St.ev ⟨n, e, st⟩ y = .int kk' j) (hz : enc u = zz) (hl : Sh.mk u j bytes = some l) (hm : st.length = m) (hst : st ++ [⟨0, el, size, l.map enc⟩] = st')
    (hk : AO P k ops Q (ds ++ [some t]) r ⟨n, upd e t (.own m 0 l.length), st'⟩) : AO P k ops Q ds (⟨some t, .makeSlice T x y, ty, ps, ed, gd⟩ :: r) ⟨n, e, st⟩ := by
  subst hm; subst hst; subst hz
  refine ao_a hg ?_
  rw [st_makeSlice]
  unfold Sh.mk at hl
  split at hl
  · rename_i h
    simp only [Option.some.injEq] at hl
    subst hl
    rw [hx, hy]
    simp only [List.map_replicate, List.length_replicate] at hk
    exact optK_intro _ he ⟨rfl, h.1, h.2.1, h.2.2, hk⟩
  · cases hl
theorem ao_bs {len : Nat} {parts : Array (Nat × Operand)} {pv : List (Nat × AV)} (hg : GO ds gd e) (he : einfo P T = some ⟨el, size, bytes, zz⟩) (hle : len * size ≤ 16777216) (hp : (parts.toList.map fun p => (p.1, St.ev ⟨n, e, st⟩ p.2)) = pv)
    (hc : afill (fun i => some (i * size, size)) ((List.replicate len zz).flatten) pv = some cs) (hck : chunk size len cs = l.map enc) (hln : len = l.length) (hm : st.length = m) (hst : st ++ [⟨0, el, size, l.map enc⟩] = st') (hk : AO P k ops Q (ds ++ [some t]) r ⟨n, upd e t (.own m 0 l.length), st'⟩) :
    AO P k ops Q ds (⟨some t, .buildSlice T len parts, ty, ps, ed, gd⟩ :: r) ⟨n, e, st⟩ := by
  subst hm; subst hst; subst hln
  refine ao_a hg ?_
  rw [st_buildSlice, hp]; exact optK_intro _ he ⟨hle, optK_intro _ hc (by rw [hck]; exact hk)⟩
theorem ao_apo {ys : AV} (hg : GO ds gd e) (he : einfo P T = some ⟨el, size, bytes, zz⟩) (hx : St.ev ⟨n, e, st⟩ x = .own id g m) (hr : st[id]? = some ⟨g, el, size, l.map enc⟩) (hm : m = l.length) (hy : St.ev ⟨n, e, st⟩ y = ys) (hel : EL st ys (l2.map enc)) (hs : ∀ a, (enc a).length = size) (ha : Sh.app l l2 bytes = some l')
    (hst : st.set id ⟨g + 1, el, size, l'.map enc⟩ = st') (hk : AO P k ops Q (ds ++ [some t]) r ⟨n, upd e t (.own id (g + 1) l'.length), st'⟩) : AO P k ops Q ds (⟨some t, .call ⟨.builtin .append, #[x, y], #[T, T]⟩, ty, ps, ed, gd⟩ :: r) ⟨n, e, st⟩ := by
  subst hst; subst hy; subst hm
  refine ao_a hg ?_
  rw [st_append]
  refine ⟨rfl, ?_⟩
  rw [hx]
  unfold Sh.app at ha
  split at ha
  · rename_i h
    simp only [Option.some.injEq] at ha
    subst ha
    refine optK_intro _ he (hel _ ⟨fun z hz => ?_, optK_intro _ hr ⟨rfl, rfl, rfl, by simpa using h.1, by simpa using h.2, ?_⟩⟩)
    · obtain ⟨q, _, rfl⟩ := List.mem_map.1 hz; exact hs q
    · have e1 : (l.map enc).take l.length = l.map enc := by rw [← List.length_map (f := enc) (as := l), List.take_length]
      have e2 : l.length + (l2.map enc).length = (l ++ l2).length := by simp
      simp only [e1, e2, ← List.map_append]
      exact hk
  · cases ha
theorem ao_apz {ys : AV} (hg : GO ds gd e) (he : einfo P T = some ⟨el, size, bytes, zz⟩) (hx : St.ev ⟨n, e, st⟩ x = .zc) (hy : St.ev ⟨n, e, st⟩ y = ys) (hel : EL st ys (l2.map enc)) (hs : ∀ a, (enc a).length = size) (ha : Sh.app [] l2 bytes = some l') (hm : st.length = m)
    (hst : st ++ [⟨0, el, size, l'.map enc⟩] = st') (hk : AO P k ops Q (ds ++ [some t]) r ⟨n, upd e t (.own m 0 l'.length), st'⟩) : AO P k ops Q ds (⟨some t, .call ⟨.builtin .append, #[x, y], #[T, T]⟩, ty, ps, ed, gd⟩ :: r) ⟨n, e, st⟩ := by
  subst hst; subst hy; subst hm
  refine ao_a hg ?_
  rw [st_append]
  refine ⟨rfl, ?_⟩
  rw [hx]
  unfold Sh.app at ha
  split at ha
  · rename_i h
    simp only [List.nil_append, Option.some.injEq] at ha
    subst ha
    refine optK_intro _ he (hel _ ⟨fun z hz => ?_, by simpa using h.1, by simpa using h.2, ?_⟩)
    · obtain ⟨q, _, rfl⟩ := List.mem_map.1 hz; exact hs q
    · simp only [List.length_map]
      exact hk
  · cases ha
theorem ao_hio {hop : Operand} (hg : GO ds gd e) (he : einfo P T = some ⟨el, size, bytes, zz⟩) (hx : St.ev ⟨n, e, st⟩ x = .own id g m) (hr : st[id]? = some ⟨g, el, size, l.map enc⟩) (hm : m = l.length) (hh : St.ev ⟨n, e, st⟩ hop = .int kk j) (hl : Sh.hi l j = some l')
    (hst : st.set id ⟨g + 1, el, size, l'.map enc⟩ = st') (hk : AO P k ops Q (ds ++ [some t]) r ⟨n, upd e t (.own id (g + 1) l'.length), st'⟩) : AO P k ops Q ds (⟨some t, .slice T x none (some hop) none, ty, ps, ed, gd⟩ :: r) ⟨n, e, st⟩ := by
  subst hst; subst hm
  refine ao_a hg ?_
  rw [st_slice]
  simp only [Option.map_some, Option.map_none]
  rw [hx, hh]
  unfold Sh.hi at hl
  split at hl
  · rename_i h
    simp only [Option.some.injEq] at hl
    subst hl
    refine optK_intro _ he (optK_intro _ hr ⟨rfl, rfl, optK_intro _ rfl ⟨h.1, h.2, ?_⟩⟩)
    have e1 : (l.take j.toNat).length = j.toNat := by rw [List.length_take]; omega
    rw [e1, List.map_take] at hk
    exact hk
  · cases hl
theorem ao_sls {lo hi : Option Operand} {i j : Int} (hg : GO ds gd e) (he : einfo P T = some ⟨el, size, bytes, zz⟩) (hx : St.ev ⟨n, e, st⟩ x = .sl (l.map enc)) (h1 : bnd (lo.map (St.ev ⟨n, e, st⟩)) 0 = some i) (h2 : bnd (hi.map (St.ev ⟨n, e, st⟩)) l.length = some j) (hs : ∀ a, (enc a).length = size) (hl : Sh.sl l i j = some l')
    (hk : AO P k ops Q (ds ++ [some t]) r ⟨n, upd e t (.sl (l'.map enc)), st⟩) : AO P k ops Q ds (⟨some t, .slice T x lo hi none, ty, ps, ed, gd⟩ :: r) ⟨n, e, st⟩ := by
  refine ao_a hg ?_
  rw [st_slice]
  simp only [Option.map_none]
  rw [hx]
  unfold Sh.sl at hl
  split at hl
  · rename_i h
    simp only [Option.some.injEq] at hl
    subst hl
    refine optK_intro _ he (optK_intro _ h1 (optK_intro _ (by rw [List.length_map]; exact h2) ⟨h.1, h.2.1, by simpa using h.2.2, fun z hz => ?_, ?_⟩))
    · obtain ⟨q, _, rfl⟩ := List.mem_map.1 hz; exact hs q
    · rw [List.map_drop, List.map_take] at hk
      exact hk
  · cases hl

theorem ao_nil (hg : GO ds gd e) (hs : isSliceT P T = true) (hx : St.ev ⟨n, e, st⟩ x = .sl (l.map enc)) (h1 : l = [] → AO P k ops Q (ds ++ [some t]) r ⟨n, upd e t (.bool true), st⟩) (h2 : AO P k ops Q (ds ++ [some t]) r ⟨n, upd e t (.bool false), st⟩) {yT : TypeId} :
    AO P k ops Q ds (⟨some t, .binOp .eql T x (.const (.slice none 0 0)) yT, ty, ps, ed, gd⟩ :: r) ⟨n, e, st⟩ := by
  refine ao_a hg ?_
  rw [st_bin_nil]
  refine ⟨hs, ?_⟩
  rw [hx]
  exact ⟨fun h => h1 (List.map_eq_nil_iff.1 h), h2⟩

/-! #### Calls -/

def PRows : List Row → Prop
  | [] => True
  | row :: r => pureRow' row.xs ∧ PRows r
theorem PRows.get : ∀ {l : List Row}, PRows l → ∀ row ∈ l, pureRow' row.xs
  | row :: r, h, row', hm => by
    rcases List.mem_cons.1 hm with rfl | hm
    · exact h.1
    · exact PRows.get h.2 row' hm

variable {f : FuncId} {ars : Array Operand} {ts : Array TypeId} {args : List AV} {rows : List Row} {s : St}

theorem ao_call (hg : GO ds gd e) (hb : hasBody P f = true) (hc : ACalls P f args [] fun r st => r = v ∧ st = rows) (ha : ars.toList.map (St.ev ⟨n, e, st⟩) ++ [] = args) (hf : args.all flat = true) (hp : PRows rows) (hv : shift st.length v = v') (hst : st ++ rows = st')
    (hk : AO P k ops Q (ds ++ [d]) r (St.put ⟨n, e, st'⟩ d v')) : AO P k ops Q ds (⟨d, .call ⟨.value (.func f), ars, ts⟩, ty, ps, ed, gd⟩ :: r) ⟨n, e, st⟩ := by
  subst hv; subst hst; subst ha
  refine ao_a hg ?_
  rw [st_call_func]
  refine ⟨hb, callThen_pure hc hf ?_⟩
  rintro r st' ⟨rfl, rfl⟩
  exact ⟨hp.get, hk⟩

theorem ao_callt {tf : Tmp} {caps : List AV} (hg : GO ds gd e) (hfn : e tf = .fn f caps) (hb : hasBody P f = true) (hc : ACalls P f args [] fun r st => r = v ∧ st = rows) (ha : ars.toList.map (St.ev ⟨n, e, st⟩) ++ caps = args) (hf : args.all flat = true) (hp : PRows rows) (hv : shift st.length v = v') (hst : st ++ rows = st')
    (hk : AO P k ops Q (ds ++ [d]) r (St.put ⟨n, e, st'⟩ d v')) : AO P k ops Q ds (⟨d, .call ⟨.value (.tmp tf), ars, ts⟩, ty, ps, ed, gd⟩ :: r) ⟨n, e, st⟩ := by
  subst hv; subst hst; subst ha
  refine ao_a hg ?_
  rw [st_call_tmp, show (St.mk n e st).env tf = e tf from rfl, hfn]
  refine ⟨hb, callThen_pure hc hf ?_⟩
  rintro r st' ⟨rfl, rfl⟩
  exact ⟨hp.get, hk⟩

theorem bo_s {v : AV} (h : ∀ st, borrow1 st v = v) : borrow1 st v = v := h st
theorem bo_o {g : Nat} {enc' : α → List AV} (hr : st[id]? = some ⟨g, el, size, l.map enc⟩) (hu : ∀ x, undC (enc x) = enc' x) : bor0 st (.own id g l.length) = .sl (l.map enc') := by
  simp only [bor0, hr, if_true]
  rw [← List.length_map (f := enc) (as := l), List.take_length, undR_eq, List.map_map]
  congr 1
  exact List.map_congr_left fun x _ => hu x

theorem undC_simple {cs : List AV} (h : cs.all simple = true) : undC cs = cs := by
  rw [undC_eq]
  exact (List.map_congr_left (g := id) fun c hc => und_simple (List.all_eq_true.1 h c hc)).trans (List.map_id _)

/-- The cells of a struct that is handed over, its rows borrowed. -/
inductive BC (st : List Row) : List AV → List AV → Prop
  | nil : BC st [] []
  | own {α : Type} {l : List α} {enc : α → List AV} {id g size m : Nat} {el : TypeId} {as bs : List AV} (hr : st[id]? = some ⟨g, el, size, l.map enc⟩) (hm : m = l.length) (hp : ∀ x, (enc x).all simple = true) (h : BC st as bs) : BC st (.own id g m :: as) (.sl (l.map enc) :: bs)
  | ownD {α : Type} {l : List α} {enc enc' : α → List AV} {id g size m : Nat} {el : TypeId} {as bs : List AV} (hr : st[id]? = some ⟨g, el, size, l.map enc⟩) (hm : m = l.length) (hp : ∀ x, (enc x).all simple' = true) (hu : ∀ x, undC (enc x) = enc' x) (h : BC st as bs) : BC st (.own id g m :: as) (.sl (l.map enc') :: bs)
  | val {v : AV} {as bs : List AV} (hv : simple v = true) (h : BC st as bs) : BC st (v :: as) (v :: bs)

/-- The arguments of a call, its rows borrowed. -/
inductive BA (st : List Row) : List AV → List AV → Prop
  | nil : BA st [] []
  | own {α : Type} {l : List α} {enc : α → List AV} {id g size m : Nat} {el : TypeId} {as bs : List AV} (hr : st[id]? = some ⟨g, el, size, l.map enc⟩) (hm : m = l.length) (hp : ∀ x, (enc x).all simple = true) (h : BA st as bs) : BA st (.own id g m :: as) (.sl (l.map enc) :: bs)
  | ownD {α : Type} {l : List α} {enc enc' : α → List AV} {id g size m : Nat} {el : TypeId} {as bs : List AV} (hr : st[id]? = some ⟨g, el, size, l.map enc⟩) (hm : m = l.length) (hp : ∀ x, (enc x).all simple' = true) (hu : ∀ x, undC (enc x) = enc' x) (h : BA st as bs) : BA st (.own id g m :: as) (.sl (l.map enc') :: bs)
  | agg {cs ds : List AV} {as bs : List AV} (hc : BC st cs ds) (h : BA st as bs) : BA st (.agg cs :: as) (.agg ds :: bs)
  | val {v : AV} {as bs : List AV} (hv : flat v = true) (h : BA st as bs) : BA st (v :: as) (v :: bs)

theorem bor0_simple {v : AV} (h : simple v = true) : bor0 st v = v := by cases v <;> simp_all [simple, bor0]

theorem BC.spec {as bs : List AV} (h : BC st as bs) : as.map (bor0 st) = bs ∧ bs.all simple = true ∧ ∀ id g n, AV.own id g n ∈ as → ∀ row, st[id]? = some row → pureRow' row.xs := by
  induction h with
  | nil => exact ⟨rfl, rfl, by simp⟩
  | own hr hm hp h ih =>
    obtain ⟨h1, h2, h3⟩ := ih
    subst hm
    refine ⟨by rw [List.map_cons, bo_o hr (fun x => undC_simple (hp x)), h1], by simp [simple, h2], fun id' g' n' hx row hrow => ?_⟩
    rcases List.mem_cons.1 hx with hx | hx
    · cases hx; rw [hr] at hrow; cases hrow; exact (pure_map hp).any
    · exact h3 id' g' n' hx row hrow
  | ownD hr hm hp hu h ih =>
    obtain ⟨h1, h2, h3⟩ := ih
    subst hm
    refine ⟨by rw [List.map_cons, bo_o hr hu, h1], by simp [simple, h2], fun id' g' n' hx row hrow => ?_⟩
    rcases List.mem_cons.1 hx with hx | hx
    · cases hx; rw [hr] at hrow; cases hrow; exact pure_mapD hp
    · exact h3 id' g' n' hx row hrow
  | @val v as bs hv h ih =>
    obtain ⟨h1, h2, h3⟩ := ih
    refine ⟨by rw [List.map_cons, bor0_simple hv, h1], by simp [hv, h2], fun id' g' n' hx row hrow => ?_⟩
    rcases List.mem_cons.1 hx with hx | hx
    · subst hx; simp [simple] at hv
    · exact h3 id' g' n' hx row hrow

theorem BA.spec {as bs : List AV} (h : BA st as bs) : as.map (borrow1 st) = bs ∧ bs.all flat = true ∧ ∀ id g n, lentIn as id g n → ∀ row, st[id]? = some row → pureRow' row.xs := by
  induction h with
  | nil => exact ⟨rfl, rfl, by rintro id g n (h | ⟨_, h, _⟩) <;> simp at h⟩
  | own hr hm hp h ih =>
    obtain ⟨h1, h2, h3⟩ := ih
    subst hm
    refine ⟨by rw [List.map_cons, h1]; congr 1; exact bo_o hr (fun x => undC_simple (hp x)), by simp [flat, h2], fun id' g' n' hx row hrow => ?_⟩
    rcases hx with hx | ⟨cs, hx, hin⟩
    · rcases List.mem_cons.1 hx with hx | hx
      · cases hx; rw [hr] at hrow; cases hrow; exact (pure_map hp).any
      · exact h3 id' g' n' (.inl hx) row hrow
    · rcases List.mem_cons.1 hx with hx | hx
      · cases hx
      · exact h3 id' g' n' (.inr ⟨cs, hx, hin⟩) row hrow
  | ownD hr hm hp hu h ih =>
    obtain ⟨h1, h2, h3⟩ := ih
    subst hm
    refine ⟨by rw [List.map_cons, h1]; congr 1; exact bo_o hr hu, by simp [flat, h2], fun id' g' n' hx row hrow => ?_⟩
    rcases hx with hx | ⟨cs, hx, hin⟩
    · rcases List.mem_cons.1 hx with hx | hx
      · cases hx; rw [hr] at hrow; cases hrow; exact pure_mapD hp
      · exact h3 id' g' n' (.inl hx) row hrow
    · rcases List.mem_cons.1 hx with hx | hx
      · cases hx
      · exact h3 id' g' n' (.inr ⟨cs, hx, hin⟩) row hrow
  | agg hc h ih =>
    obtain ⟨h1, h2, h3⟩ := ih
    obtain ⟨g1, g2, g3⟩ := hc.spec
    refine ⟨by rw [List.map_cons, h1]; simp only [borrow1, g1], by simp only [List.all_cons, h2, Bool.and_true]; simpa [flat] using g2, fun id' g' n' hx row hrow => ?_⟩
    rcases hx with hx | ⟨cs, hx, hin⟩
    · rcases List.mem_cons.1 hx with hx | hx
      · cases hx
      · exact h3 id' g' n' (.inl hx) row hrow
    · rcases List.mem_cons.1 hx with hx | hx
      · cases hx; exact g3 id' g' n' hin row hrow
      · exact h3 id' g' n' (.inr ⟨cs, hx, hin⟩) row hrow
  | @val v as bs hv h ih =>
    obtain ⟨h1, h2, h3⟩ := ih
    have e1 : borrow1 st v = v := by
      cases v <;> simp [flat] at hv <;> try rfl
      rename_i cs
      simp only [borrow1]
      congr 1
      exact (List.map_congr_left (g := id) fun c hc => bor0_simple (hv c hc)).trans (List.map_id _)
    refine ⟨by rw [List.map_cons, e1, h1], by simp [hv, h2], fun id' g' n' hx row hrow => ?_⟩
    rcases hx with hx | ⟨cs, hx, hin⟩
    · rcases List.mem_cons.1 hx with hx | hx
      · subst hx; simp [flat] at hv
      · exact h3 id' g' n' (.inl hx) row hrow
    · rcases List.mem_cons.1 hx with hx | hx
      · subst hx
        have := List.all_eq_true.1 (show cs.all simple = true from hv) _ hin
        simp [simple] at this
      · exact h3 id' g' n' (.inr ⟨cs, hx, hin⟩) row hrow

def SRows : List Row → Prop
  | [] => True
  | row :: r => (pureRow' row.xs ∧ ∀ x ∈ row.xs, ∀ c ∈ x, scal1 c = true) ∧ SRows r
theorem SRows.get : ∀ {l : List Row}, SRows l → ∀ row ∈ l, pureRow' row.xs ∧ ∀ x ∈ row.xs, ∀ c ∈ x, scal1 c = true
  | row :: r, h, row', hm => by
    rcases List.mem_cons.1 hm with rfl | hm
    · exact h.1
    · exact SRows.get h.2 row' hm
theorem srowD {g : Nat} (h : ∀ x, (enc x).all (fun c => simple' c && scal1 c) = true) (hr : SRows rows) : SRows (⟨g, el, size, l.map enc⟩ :: rows) := by
  refine ⟨⟨fun x hx c hc => ?_, fun x hx c hc => ?_⟩, hr⟩ <;>
  · obtain ⟨y, _, rfl⟩ := List.mem_map.1 hx
    have := List.all_eq_true.1 (h y) c hc
    simp only [Bool.and_eq_true] at this
    first | exact this.1 | exact this.2
theorem srow {g : Nat} (h : ∀ x, (enc x).all (fun c => simple c && scal1 c) = true) (hr : SRows rows) : SRows (⟨g, el, size, l.map enc⟩ :: rows) :=
  srowD (fun x => List.all_eq_true.2 fun c hc => by
    have := List.all_eq_true.1 (h x) c hc
    simp only [Bool.and_eq_true] at this ⊢
    exact ⟨simple_simple' this.1, this.2⟩) hr

theorem ao_callb {as : List AV} (hg : GO ds gd e) (hb : hasBody P f = true) (hc : ACalls P f args [] fun r st => r = v ∧ st = rows) (ha : ars.toList.map (St.ev ⟨n, e, st⟩) ++ [] = as) (hba : BA st as args) (hsc : scal v = true) (hp : SRows rows) (hv : shift st.length v = v') (hst : st ++ rows = st')
    (hk : AO P k ops Q (ds ++ [d]) r (St.put ⟨n, e, st'⟩ d v')) : AO P k ops Q ds (⟨d, .call ⟨.value (.func f), ars, ts⟩, ty, ps, ed, gd⟩ :: r) ⟨n, e, st⟩ := by
  subst hv; subst hst; subst ha
  obtain ⟨h1, h2, h3⟩ := hba.spec
  refine ao_a hg ?_
  rw [st_call_func]
  refine ⟨hb, callThen_borrow (R := fun r st => r = v ∧ st = rows) ?_ ?_ h3 ?_⟩
  · show ACalls P f (List.map (borrow1 st) _) [] _
    rw [h1]; exact hc
  · show (List.map (borrow1 st) _).all flat = true
    rw [h1]; exact h2
  · rintro r st' ⟨rfl, rfl⟩
    exact ⟨⟨hsc, fun row hrow => (hp.get row hrow).2⟩, fun row hrow => (hp.get row hrow).1, hk⟩
/-- The same in a head that draws its order: no row comes of it. -/
theorem d_callb {as : List AV} {KS : St → Prop} {t : Tmp} (hg : GO ds gd e) (hb : hasBody P f = true) (hc : ACalls P f args [] fun r st => r = v ∧ st = []) (ha : ars.toList.map (St.ev ⟨n, e, st⟩) ++ [] = as) (hba : BA st as args) (hsc : scal v = true) (hv : shift st.length v = v')
    (hk : dops P (ds ++ [some t]) r KS ⟨n, upd e t v', st⟩) : dops P ds (⟨some t, .call ⟨.value (.func f), ars, ts⟩, ty, ps, ed, gd⟩ :: r) KS ⟨n, e, st⟩ := by
  subst hv; subst ha
  obtain ⟨h1, h2, h3⟩ := hba.spec
  refine d_l hg rfl (fun s0 e1 e2 hd k F os a w hr next Q hn => ?_) hk
  refine aloud_ok (k := k) (K := (· = s0.put (some t) (shift st.length v))) hr hd ?_ hn
  show hasBody P f = true ∧ callThen P k s0 f (ars.toList.map s0.ev ++ []) (some t) _
  rw [ev_args e2]
  refine ⟨hb, ?_⟩
  subst e1
  refine callThen_borrow (R := fun r st' => r = v ∧ st' = []) ?_ ?_ h3 ?_
  · show ACalls P f (List.map (borrow1 s0.st) _) [] _
    rw [h1]; exact hc
  · show (List.map (borrow1 s0.st) _).all flat = true
    rw [h1]; exact h2
  · rintro r st' ⟨rfl, rfl⟩
    refine ⟨⟨hsc, by simp⟩, by simp, ?_⟩
    rw [List.append_nil]

end

/-! ### Code -/

section
variable {P : Program} {k : Nat} {Q : Exit → St → Prop} {s s' : St} {x y c : Code}

theorem AW.cond' {o : Operand} {b : Bool} (ho : s.ev o = .bool b) (h1 : b = true → AW P k x Q s) (h2 : b = false → AW P k y Q s) : AW P k (.cond o x y) Q s :=
  AW.cond fun K1 K2 e1 e2 => by rw [ho]; exact ⟨fun h => e1 (h1 h), fun h => e2 (h2 h)⟩

theorem AW.loopF {σ : Type} (I : Nat → σ → Prop) (canon : σ → St) (n0 : Nat) (v0 : σ) (h0 : I n0 v0) (hw : Wk k s (canon v0)) (hz : ∀ v, ¬ I 0 v)
    (round : ∀ n v, I (n + 1) v → AW P k c (athen (fun s' => ∃ v', I n v' ∧ Wk k s' (canon v')) Q) (canon v)) : AW P k (.loop c) Q s := by
  refine AW.weaken hw ?_
  have key : ∀ n v, I n v → ∀ F os a w, Rel F os (canon v) a w → ∀ (b : Frame) (kk : List Item) (cs : List Frame),
      ∃ e a' w', Post k Q F os w e a' w' ∧ Arrives P (lone (b.at a (.code c :: .inLoop c :: kk)) cs w) b kk cs e a' w' := by
    intro n
    induction n with
    | zero => intro v hI; exact absurd hI (hz v)
    | succ n ih =>
      intro v hI F os a w hr b kk cs
      obtain ⟨e, a₁, w₁, ⟨s1, F1, os1, hq, hR1, hE1⟩, harr⟩ := round n v hI F os a w hr b (.inLoop c :: kk) cs
      cases e with
      | normal =>
        obtain ⟨v2, hI2, hw2⟩ := hq
        obtain ⟨F2, os2, hR2, hE2⟩ := hw2 F1 os1 a₁ w₁ hR1
        obtain ⟨e₂, a₂, w₂, hq₂, harr₂⟩ := ih v2 hI2 F2 os2 a₁ w₁ hR2 b kk cs
        exact ⟨e₂, a₂, w₂, hq₂.trans (hE1.trans hE2), .of_steps (Steps.trans harr (.one step_inLoop)) harr₂⟩
      | exit id => exact ⟨_, a₁, w₁, ⟨s1, F1, os1, hq, hR1, hE1⟩, .pass (x := .inLoop c) rfl (fun _ _ => .inl (by simp)) harr⟩
      | goto l => exact ⟨_, a₁, w₁, ⟨s1, F1, os1, hq, hR1, hE1⟩, .pass (x := .inLoop c) rfl (fun _ _ => .inl (by simp)) harr⟩
      | ret => exact ⟨_, a₁, w₁, ⟨s1, F1, os1, hq, hR1, hE1⟩, .pass (x := .inLoop c) rfl (fun _ _ => .inl (by simp)) harr⟩
      | panic ch => exact ⟨_, a₁, w₁, ⟨s1, F1, os1, hq, hR1, hE1⟩, .pass (x := .inLoop c) rfl (fun _ _ => .inl (by simp)) harr⟩
      | outgrown => exact ⟨_, a₁, w₁, ⟨s1, F1, os1, hq, hR1, hE1⟩, .pass (x := .inLoop c) rfl (fun _ _ => .inl (by simp)) harr⟩
  intro F os a w hr b kk cs
  obtain ⟨e, a', w', hq, harr⟩ := key n0 v0 h0 F os a w hr b kk cs
  exact ⟨e, a', w', hq, .of_steps (.one step_loop) harr⟩

theorem AW.retL {fn : Func} {R : AV → List Row → Prop} (h : ∃ s', Wk k s s' ∧ aresVals P s' fn.results.toList fun vs => R (tupOf vs) s'.st) (hQ : Q .ret s = aret P k fn R .ret s) : AW P k .ret Q s := AW.ret (by rw [hQ]; exact h)
end
end Go.Abs

/- Calls that are handed rows of the caller's, which they turn. -/
namespace Go.Abs
open Go

variable {P : Program} {F : Nat → Prop} {os : List Own} {s : St} {a : Act} {w : World} {k : Nat}

/-- Holds no row beyond the first m. -/
def under1 (m : Nat) : AV → Bool
  | .own id _ _ | .ptr id _ _ _ => decide (id < m)
  | .fn .. | .agg _ | .tup _ => false
  | _ => true
def under (m : Nat) : AV → Bool
  | .fn _ cs | .agg cs | .tup cs => cs.all (under1 m)
  | v => under1 m v

theorem rep_under1 {m : Nat} {os1 os2 : List Own} (hos : ∀ i, i < m → os2[i]? = os1[i]?) {x : AV} {v : Value} (hx : under1 m x = true) (h : Rep F w os1 x v) : Rep F w os2 x v := by
  cases x with
  | own id g n => simp only [under1, decide_eq_true_eq] at hx; simp only [Rep] at h ⊢; rw [hos id hx]; exact h
  | ptr id g i off => simp only [under1, decide_eq_true_eq] at hx; simp only [Rep] at h ⊢; rw [hos id hx]; exact h
  | fn f cs => simp [under1] at hx
  | agg cs => simp [under1] at hx
  | tup cs => simp [under1] at hx
  | _ => simp only [Rep] at h ⊢ <;> exact h

theorem rep_under {m : Nat} {os1 os2 : List Own} (hos : ∀ i, i < m → os2[i]? = os1[i]?) {x : AV} {v : Value} (hx : under m x = true) (h : Rep F w os1 x v) : Rep F w os2 x v := by
  have hL : ∀ cs us, cs.all (under1 m) = true → RepL F w os1 cs us → RepL F w os2 cs us := fun cs us hc hl =>
    repL_mk (repL_length hl) fun i y u hy hu => by
      obtain ⟨u', hu', hr⟩ := repL_get hl i y hy
      rw [hu'] at hu; cases hu
      exact rep_under1 hos (List.all_eq_true.1 hc y (List.mem_of_getElem? hy)) hr
  cases x with
  | fn f cs => simp only [Rep] at h ⊢; obtain ⟨us, e, hl⟩ := h; exact ⟨us, e, hL cs us hx hl⟩
  | agg cs => simp only [Rep] at h ⊢; obtain ⟨us, e, hl⟩ := h; exact ⟨us, e, hL cs us hx hl⟩
  | tup cs => simp only [Rep] at h ⊢; obtain ⟨us, e, hl⟩ := h; exact ⟨us, e, hL cs us hx hl⟩
  | _ => exact rep_under1 hos hx h

def underRows (m : Nat) : List Row → Prop
  | [] => True
  | row :: r => (∀ x ∈ row.xs, ∀ c ∈ x, under1 m c = true) ∧ underRows m r
theorem underRows.get {m : Nat} : ∀ {l : List Row}, underRows m l → ∀ row ∈ l, ∀ x ∈ row.xs, ∀ c ∈ x, under1 m c = true
  | row :: r, h, row', hm => by
    rcases List.mem_cons.1 hm with rfl | hm
    · exact h.1
    · exact underRows.get h.2 row' hm
theorem simple_under {m : Nat} {c : AV} (h : simple c = true) : under1 m c = true := by cases c <;> simp [simple, under1] at h ⊢
theorem UR.pure {m : Nat} {row : Row} {r : List Row} (h : pureRow row.xs) (hr : underRows m r) : underRows m (row :: r) := ⟨fun x hx c hc => simple_under (h x hx c hc), hr⟩
theorem UR.raw {m g size : Nat} {el : TypeId} {cs : List AV} {r : List Row} (h : cs.all (under1 m) = true) (hr : underRows m r) : underRows m (⟨g, el, size, [cs]⟩ :: r) :=
  ⟨fun x hx c hc => by
    simp only [List.mem_singleton] at hx
    subst hx
    exact List.all_eq_true.1 h c hc, hr⟩

/-- Beyond the first m rows there are d that were not handed over. -/
def shm1 (m d : Nat) : AV → AV
  | .own id g n => .own (if id < m then id else id + d) g n
  | .ptr id g i off => .ptr (if id < m then id else id + d) g i off
  | .fn .. | .agg _ | .tup _ => .junk
  | v => v
def shm (m d : Nat) : AV → AV
  | .fn f cs => .fn f (cs.map (shm1 m d))
  | .agg cs => .agg (cs.map (shm1 m d))
  | .tup cs => .tup (cs.map (shm1 m d))
  | v => shm1 m d v

theorem rep_shm1 {m d : Nat} {os1 os2 : List Own} (hA : ∀ i, i < m → os2[i]? = os1[i]?) (hB : ∀ i, m ≤ i → os2[i + d]? = os1[i]?) {x : AV} {v : Value} (h : Rep F w os1 x v) : Rep F w os2 (shm1 m d x) v := by
  have hg : ∀ id, os2[if id < m then id else id + d]? = os1[id]? := fun id => by
    split
    · exact hA id (by assumption)
    · exact hB id (by omega)
  cases x with
  | own id g n => simp only [shm1, Rep] at h ⊢; rw [hg]; exact h
  | ptr id g i off => simp only [shm1, Rep] at h ⊢; rw [hg]; exact h
  | fn f cs => simp [shm1, Rep]
  | agg cs => simp [shm1, Rep]
  | tup cs => simp [shm1, Rep]
  | _ => simp only [shm1, Rep] at h ⊢ <;> exact h
theorem rep_shm {m d : Nat} {os1 os2 : List Own} (hA : ∀ i, i < m → os2[i]? = os1[i]?) (hB : ∀ i, m ≤ i → os2[i + d]? = os1[i]?) {x : AV} {v : Value} (h : Rep F w os1 x v) : Rep F w os2 (shm m d x) v := by
  have hL : ∀ cs us, RepL F w os1 cs us → RepL F w os2 (cs.map (shm1 m d)) us := fun cs us h =>
    repL_mk (by simp [repL_length h]) fun i x u hx hu => by
      simp only [List.getElem?_map, Option.map_eq_some_iff] at hx
      obtain ⟨y, hy, rfl⟩ := hx
      obtain ⟨u', hu', hr'⟩ := repL_get h i y hy
      rw [hu'] at hu; cases hu
      exact rep_shm1 hA hB hr'
  cases x with
  | fn f cs => simp only [shm, Rep] at h ⊢; obtain ⟨us, e, hl⟩ := h; exact ⟨us, e, hL _ _ hl⟩
  | agg cs => simp only [shm, Rep] at h ⊢; obtain ⟨us, e, hl⟩ := h; exact ⟨us, e, hL _ _ hl⟩
  | tup cs => simp only [shm, Rep] at h ⊢; obtain ⟨us, e, hl⟩ := h; exact ⟨us, e, hL _ _ hl⟩
  | _ => exact rep_shm1 hA hB h

/-- The first rows are handed over; the others stay; new ones come last. -/
theorem callThen_rows {f : FuncId} {args : List AV} {d : Option Tmp} {K : St → Prop} {rows0 rows1 rows2 rest : List Row} {v : AV} (h : ACalls P f args rows0 fun r st => r = v ∧ st = rows1 ++ rows2) (hlen : rows1.length = rows0.length)
    (hst : s.st = rows0 ++ rest) (hargs : args.all (under rows0.length) = true) (hur : underRows rows0.length rows0) (hur1 : underRows rows0.length rows1) (hpr : ∀ row ∈ rows2, pureRow' row.xs)
    (hK : K ({ s with st := rows1 ++ (rest ++ rows2) }.put d (shm rows0.length rest.length v))) : callThen P k s f args d K := by
  intro F os a w vs hr hl
  have hm : os.length = rows0.length + rest.length := by rw [← hr.len, hst, List.length_append]
  let m := rows0.length
  let osA := os.take m
  let osB := os.drop m
  have hAB : osA ++ osB = os := List.take_append_drop m os
  have hAl : osA.length = m := by simp [osA]; omega
  have hBl : osB.length = rest.length := by simp [osB]; omega
  have hgetA : ∀ i, i < m → osA[i]? = os[i]? := fun i hi => by simp [osA, List.getElem?_take, hi]
  have hgetB : ∀ i, osB[i]? = os[m + i]? := fun i => by simp [osB]
  have hstA : osA.map Own.row = rows0 := by
    have := hr.st
    rw [hst] at this
    have h2 : (os.map Own.row).take m = rows0 := by rw [this]; simp [m]
    rw [← h2, List.map_take]
  have hstB : osB.map Own.row = rest := by
    have := hr.st
    rw [hst] at this
    have h2 : (os.map Own.row).drop m = rest := by rw [this]; simp [m]
    rw [← h2, List.map_drop]
  have hSO : StoreOK F osA rows0 w := by
    refine ⟨hstA, fun i o ho => ?_, fun i j oi oj b hi hj => ?_, hr.old⟩
    · have hi : i < m := by rw [← hAl]; exact (List.getElem?_eq_some_iff.1 ho).1
      rw [hgetA i hi] at ho
      have hok := hr.rows i o ho
      refine ⟨hok.pos, hok.lens, hok.none, fun b hb => ?_, hok.mo, hok.deep⟩
      obtain ⟨e1, cur, e2, e3, e4, e5, e6⟩ := hok.some b hb
      refine ⟨e1, cur, e2, e3, e4, e5, fun i' x hx j c hc => ?_⟩
      obtain ⟨u, f1, f2⟩ := e6 i' x hx j c hc
      have hrow : o.row ∈ rows0 := by rw [← hstA]; exact List.mem_map.2 ⟨o, List.mem_of_getElem? (by rw [hgetA i hi]; exact ho), rfl⟩
      exact ⟨u, f1, rep_under1 hgetA (hur.get _ hrow x (List.mem_of_getElem? hx) c (List.mem_of_getElem? hc)) f2⟩
    · have hi' : i < m := by rw [← hAl]; exact (List.getElem?_eq_some_iff.1 hi).1
      have hj' : j < m := by rw [← hAl]; exact (List.getElem?_eq_some_iff.1 hj).1
      rw [hgetA i hi'] at hi
      rw [hgetA j hj'] at hj
      exact hr.inj i j oi oj b hi hj
  have hlA : RepL F w osA args vs := repL_mk (repL_length hl) fun i x u hx hu => by
    obtain ⟨u', hu', hr'⟩ := repL_get hl i x hx
    rw [hu'] at hu; cases hu
    exact rep_under hgetA (List.all_eq_true.1 hargs x (List.mem_of_getElem? hx)) hr'
  refine (h F osA w vs hSO hlA).mono ?_
  rintro e w' ⟨u, r, st', F', os', rfl, ⟨rfl, rfl⟩, hs, hru, he⟩
  have hl' : os'.length = m + rows2.length := by
    have := congrArg List.length hs.st
    rw [List.length_map, List.length_append] at this
    omega
  let osC := os'.take m
  let osN := os'.drop m
  have hCl : osC.length = m := by simp [osC]; omega
  have hCN : osC ++ osN = os' := List.take_append_drop m os'
  have hstC : osC.map Own.row = rows1 := by
    have h2 : (os'.map Own.row).take m = rows1 := by rw [hs.st]; simp [m, ← hlen]
    rw [← h2, List.map_take]
  have hstN : osN.map Own.row = rows2 := by
    have h2 : (os'.map Own.row).drop m = rows2 := by rw [hs.st]; simp [m, ← hlen]
    rw [← h2, List.map_drop]
  let os2 := osC ++ (osB ++ osN)
  have hget' : ∀ i, i < m → os2[i]? = os'[i]? := fun i hi => by
    simp only [os2]; rw [List.getElem?_append_left (by omega)]; simp [osC, List.getElem?_take, hi]
  have hgetM : ∀ i, m ≤ i → i - m < rest.length → os2[i]? = os[i]? := fun i hi h2 => by
    simp only [os2]; rw [List.getElem?_append_right (by omega), hCl, List.getElem?_append_left (by omega), hgetB]; congr 1; omega
  have hgetN : ∀ i, m ≤ i → os2[i + rest.length]? = os'[i]? := fun i hi => by
    simp only [os2]; rw [List.getElem?_append_right (by omega), hCl, List.getElem?_append_right (by omega), hBl]
    simp only [osN, List.getElem?_drop]; congr 1; omega
  -- the rows that stay
  have hB : ∀ (i : Nat) (o : Own), m ≤ i → os[i]? = some o → ∀ b, o.owns b → w'.heap[b]? = w.heap[b]? ∧ ¬ F' b ∧ ∀ o1 : Own, o1 ∈ os' → ¬ o1.owns b := fun i o hi ho b hb => by
    refine he.other b ((hr.rows _ o ho).lt hb) ((hr.rows _ o ho).nF hb) fun oA hoA e => ?_
    obtain ⟨j, hj⟩ := List.mem_iff_getElem?.1 hoA
    have hj' : j < m := by rw [← hAl]; exact (List.getElem?_eq_some_iff.1 hj).1
    rw [hgetA j hj'] at hj
    have := hr.inj j i oA o b hj ho e hb
    omega
  have hosle : HosLe os os2 := fun i o ho => by
    rcases Nat.lt_or_ge i m with hi | hi
    · rw [← hgetA i hi] at ho
      obtain ⟨o', ho', e1, e2, e3⟩ := he.pers i o hi ho
      exact ⟨o', by rw [hget' i hi]; exact ho', e1, e2, e3⟩
    · refine ⟨o, ?_, Nat.le_refl _, rfl, fun _ => ⟨rfl, rfl, rfl⟩⟩
      have := (List.getElem?_eq_some_iff.1 ho).1
      rw [hgetM i hi (by omega)]; exact ho
  have hmono : ∀ x v, Rep F w os x v → Rep F' w' os2 x v := fun x v h => rep_mono he.fsub he.fsame os _ hosle x v h
  -- what there is now
  have hcase : ∀ i o, os2[i]? = some o → (∃ j, os'[j]? = some o ∧ (i = j ∧ j < m ∨ m ≤ j ∧ i = j + rest.length)) ∨ (m ≤ i ∧ i < m + rest.length ∧ os[i]? = some o) := fun i o ho => by
    rcases Nat.lt_or_ge i m with hi | hi
    · exact .inl ⟨i, by rw [← hget' i hi]; exact ho, .inl ⟨rfl, hi⟩⟩
    · rcases Nat.lt_or_ge (i - m) rest.length with h2 | h2
      · exact .inr ⟨hi, by omega, by rw [← hgetM i hi h2]; exact ho⟩
      · refine .inl ⟨i - rest.length, ?_, .inr ⟨by omega, by omega⟩⟩
        rw [← hgetN _ (by omega), show i - rest.length + rest.length = i by omega]; exact ho
  refine ⟨u, _, rows1 ++ (rest ++ rows2), F', os2, rfl, hK, ⟨by simp only [os2]; rw [List.map_append, List.map_append, hstC, hstB, hstN], fun t => hmono _ _ (hr.env t), hr.size, fun i o ho => ?_, fun i j oi oj b hi hj hbi hbj => ?_, hs.old, hr.defers⟩, rep_shm hget' hgetN hru, ⟨he.sys, he.tape, he.output, he.size, he.fsub, he.fsame, fun b hb h1 h2 => ?_, fun i o hi ho => hosle i o ho⟩⟩
  · rcases hcase i o ho with ⟨j, hj, hij⟩ | ⟨h1, h2, ho2⟩
    · have hok := hs.rows j o hj
      refine ⟨hok.pos, hok.lens, hok.none, fun b hb => ?_, hok.mo, hok.deep⟩
      obtain ⟨e1, cur, e2, e3, e4, e5, e6⟩ := hok.some b hb
      refine ⟨e1, cur, e2, e3, e4, e5, fun i' x hx q c hc => ?_⟩
      obtain ⟨u', f1, f2⟩ := e6 i' x hx q c hc
      have hrow : os'.map Own.row = rows1 ++ rows2 := hs.st
      have hrj : (rows1 ++ rows2)[j]? = some o.row := by rw [← hrow, List.getElem?_map, hj]; rfl
      rcases hij with ⟨_, hjm⟩ | ⟨hjm, _⟩
      · rw [List.getElem?_append_left (by omega)] at hrj
        exact ⟨u', f1, rep_under1 hget' (hur1.get _ (List.mem_of_getElem? hrj) x (List.mem_of_getElem? hx) c (List.mem_of_getElem? hc)) f2⟩
      · rw [List.getElem?_append_right (by omega)] at hrj
        exact ⟨u', f1, rep_simple' (hpr _ (List.mem_of_getElem? hrj) x (List.mem_of_getElem? hx) c (List.mem_of_getElem? hc)) _ f2⟩
    · have hok := hr.rows _ o ho2
      refine ⟨hok.pos, hok.lens, hok.none, fun b hb => ?_, fun b hb => ⟨(hB _ o h1 ho2 b (.inr hb)).2.1, Nat.lt_of_lt_of_le (hok.mo b hb).2.1 he.size, (hok.mo b hb).2.2⟩,
        hok.deep.keep rfl (fun _ h => h) rfl (fun b hb => (hB _ o h1 ho2 b hb).1) (fun i x j e s ys hx hc => ⟨x, hx, hc⟩)⟩
      obtain ⟨e1, cur, e2, e3, e4, e5, e6⟩ := hok.some b hb
      obtain ⟨g1, g2, _⟩ := hB _ o h1 ho2 b (.inl hb)
      refine ⟨g2, cur, by rw [g1]; exact e2, e3, e4, e5, fun i' x hx j c hc => ?_⟩
      obtain ⟨u', f1, f2⟩ := e6 i' x hx j c hc
      exact ⟨u', f1, hmono _ _ f2⟩
  · rcases hcase i oi hi with ⟨i1, hi1, h1⟩ | ⟨h1, h2, hi1⟩ <;> rcases hcase j oj hj with ⟨j1, hj1, h3⟩ | ⟨h3, h4, hj1⟩
    · have := hs.inj i1 j1 oi oj b hi1 hj1 hbi hbj
      omega
    · exact absurd hbi ((hB _ oj h3 hj1 b hbj).2.2 oi (List.mem_of_getElem? hi1))
    · exact absurd hbj ((hB _ oi h1 hi1 b hbi).2.2 oj (List.mem_of_getElem? hj1))
    · exact hr.inj i j oi oj b hi1 hj1 hbi hbj
  · have h3 : ∀ o ∈ osA, ¬ o.owns b := fun o ho => h2 o (List.mem_of_mem_take ho)
    obtain ⟨g1, g2, g3⟩ := he.other b hb h1 h3
    refine ⟨g1, g2, fun o ho => ?_⟩
    simp only [os2] at ho
    rcases List.mem_append.1 ho with h | h
    · exact g3 o (List.mem_of_mem_take h)
    · rcases List.mem_append.1 h with h | h
      · exact h2 o (List.mem_of_mem_drop h)
      · exact g3 o (List.mem_of_mem_drop h)

section
variable {ops : Array Oper} {Q : Exit → St → Prop} {ds : List (Option Tmp)} {r : List Oper} {n : Nat} {e : Nat → AV} {st st' : List Row} {ty : TypeId} {ps : String} {ed : Array Edge} {d : Option Tmp} {v v' : AV} {gd : Option (Nat × Bool)}
variable {f : FuncId} {ars : Array Operand} {ts : Array TypeId} {args : List AV} {rows0 rows1 rows2 rest : List Row}
theorem ao_callm (hg : GO ds gd e) (hb : hasBody P f = true) (hc : ACalls P f args rows0 fun r st => r = v ∧ st = rows1 ++ rows2) (ha : ars.toList.map (St.ev ⟨n, e, st⟩) ++ [] = args) (hlen : rows1.length = rows0.length) (hst : st = rows0 ++ rest)
    (hf : args.all (under rows0.length) = true) (hur : underRows rows0.length rows0) (hur1 : underRows rows0.length rows1) (hp : PRows rows2) (hv : shm rows0.length rest.length v = v') (hst' : rows1 ++ (rest ++ rows2) = st')
    (hk : AO P k ops Q (ds ++ [d]) r (St.put ⟨n, e, st'⟩ d v')) : AO P k ops Q ds (⟨d, .call ⟨.value (.func f), ars, ts⟩, ty, ps, ed, gd⟩ :: r) ⟨n, e, st⟩ := by
  subst hst'; subst ha; subst hv
  refine ao_a hg ?_
  rw [st_call_func]
  exact ⟨hb, callThen_rows hc hlen hst hf hur hur1 hp.get hk⟩
end

/-! ### Rows in another order, with what leads to them -/

def selRow (sel : List Nat) (row : Row) : Row := { row with xs := row.xs.map (·.map (ren1 sel)) }

theorem Wk.selectR {n : Nat} {e : Nat → AV} {st : List Row} (sel : List Nat) (hk : sel.take k = List.range k) (hkr : ∀ i, i < k → ∀ row, st[i]? = some row → selRow sel row = row) (hnd : sel.Nodup) (hlt : ∀ i ∈ sel, i < st.length) (hl : leafRows ((pickRows st sel).map (selRow sel))) :
    Wk k ⟨n, e, st⟩ ⟨n, fun t => ren sel (e t), (pickRows st sel).map (selRow sel)⟩ := fun F os a w hr => by
  have hlen : st.length = os.length := hr.len
  have hk' : ∀ i, i < k → sel[i]? = some i := fun i hi => by
    have h1 : (sel.take k)[i]? = some i := by rw [hk]; simp [hi]
    rw [List.getElem?_take] at h1
    simpa [hi] using h1
  have hos1 : ∀ (j id : Nat), sel[j]? = some id → (sel.filterMap (os[·]?))[j]? = os[id]? := by
    have : ∀ (l : List Nat), (∀ i ∈ l, i < os.length) → ∀ (j id : Nat), l[j]? = some id → (l.filterMap (os[·]?))[j]? = os[id]? := fun l => by
      induction l with
      | nil => intro _ j id h; simp at h
      | cons i l ih =>
        intro hl j id h
        have hi := hl i (by simp)
        rw [List.filterMap_cons, List.getElem?_eq_getElem hi]
        cases j with
        | zero => simp only [List.getElem?_cons_zero, Option.some.injEq] at h; subst h; simp [List.getElem?_eq_getElem hi]
        | succ j => simp only [List.getElem?_cons_succ] at h ⊢; exact ih (fun x hx => hl x (by simp [hx])) j id h
    exact this sel (fun i hi => by rw [← hlen]; exact hlt i hi)
  let so : Own → Own := fun o => { o with row := selRow sel o.row }
  let os2 := (sel.filterMap (os[·]?)).map so
  have hl2 : (sel.filterMap (os[·]?)).length = sel.length := by
    have : ∀ (l : List Nat), (∀ i ∈ l, i < os.length) → (l.filterMap (os[·]?)).length = l.length := fun l => by
      induction l with
      | nil => simp
      | cons i l ih => intro hl; rw [List.filterMap_cons, List.getElem?_eq_getElem (hl i (by simp))]; simp [ih (fun x hx => hl x (by simp [hx]))]
    exact this sel (fun i hi => by rw [← hlen]; exact hlt i hi)
  have hget : ∀ (j : Nat) (o : Own), os2[j]? = some o → ∃ id o0, sel[j]? = some id ∧ os[id]? = some o0 ∧ o = so o0 := fun j o h => by
    simp only [os2, List.getElem?_map, Option.map_eq_some_iff] at h
    obtain ⟨o0, h0, rfl⟩ := h
    have hj : j < sel.length := by rw [← hl2]; exact (List.getElem?_eq_some_iff.1 h0).1
    refine ⟨sel[j], o0, List.getElem?_eq_getElem hj, ?_, rfl⟩
    rw [← hos1 j _ (List.getElem?_eq_getElem hj)]; exact h0
  have hren1 : ∀ x v, Rep F w os x v → Rep F w os2 (ren1 sel x) v := fun x v h => by
    have hidx : ∀ id j, idx sel id = some j → os2[j]? = (os[id]?).map so := fun id j hj => by
      unfold idx at hj
      rw [List.findIdx?_eq_some_iff_getElem] at hj
      obtain ⟨h1, h2, _⟩ := hj
      simp only [os2, List.getElem?_map]
      rw [hos1 j id (by rw [List.getElem?_eq_getElem h1]; simpa using h2)]
    cases x with
    | own id g n =>
      simp only [ren1]
      split
      · rename_i j hj
        simp only [Rep] at h ⊢
        obtain ⟨o, h1, h2, h3, h4⟩ := h
        exact ⟨so o, by rw [hidx id j hj, h1]; rfl, h2, h3, fun hg => by
          obtain ⟨a1, a2⟩ := h4 hg
          exact ⟨by simpa [so, selRow] using a1, a2⟩⟩
      · simp [Rep]
    | ptr id g i off =>
      simp only [ren1]
      split
      · rename_i j hj
        simp only [Rep] at h ⊢
        obtain ⟨o, h1, h2, h3, h4⟩ := h
        exact ⟨so o, by rw [hidx id j hj, h1]; rfl, h2, h3, fun hg => by
          obtain ⟨a1, a2, a3⟩ := h4 hg
          exact ⟨by simpa [so, selRow] using a1, a2, a3⟩⟩
      · simp [Rep]
    | fn f cs => simp [ren1, Rep]
    | agg cs => simp [ren1, Rep]
    | tup cs => simp [ren1, Rep]
    | _ => simp only [ren1, Rep] at h ⊢ <;> exact h
  have hrenL : ∀ cs us, RepL F w os cs us → RepL F w os2 (cs.map (ren1 sel)) us := fun cs us h =>
    repL_mk (by simp [repL_length h]) fun i x u hx hu => by
      simp only [List.getElem?_map, Option.map_eq_some_iff] at hx
      obtain ⟨y, hy, rfl⟩ := hx
      obtain ⟨u', hu', hr'⟩ := repL_get h i y hy
      rw [hu'] at hu; cases hu
      exact hren1 _ _ hr'
  have hren : ∀ x v, Rep F w os x v → Rep F w os2 (ren sel x) v := fun x v h => by
    cases x with
    | fn f cs => simp only [ren, Rep] at h ⊢; obtain ⟨us, e, hl⟩ := h; exact ⟨us, e, hrenL _ _ hl⟩
    | agg cs => simp only [ren, Rep] at h ⊢; obtain ⟨us, e, hl⟩ := h; exact ⟨us, e, hrenL _ _ hl⟩
    | tup cs => simp only [ren, Rep] at h ⊢; obtain ⟨us, e, hl⟩ := h; exact ⟨us, e, hrenL _ _ hl⟩
    | _ => exact hren1 _ _ h
  have hstR : os2.map Own.row = (pickRows st sel).map (selRow sel) := by
    have h0 : os.map Own.row = st := hr.st
    simp only [os2, pickRows, ← h0, List.map_map, List.map_filterMap]
    congr 1
    funext i
    simp only [List.getElem?_map]
    cases os[i]? <;> rfl
  refine ⟨F, os2, ⟨hstR, fun t => hren _ _ (hr.env t), hr.size, fun j o ho => ?_, fun i j oi oj b hi hj hbi hbj => ?_, hr.old, hr.defers⟩, ⟨rfl, rfl, rfl, Nat.le_refl _, fun _ h => h, fun _ _ => rfl, fun b _ h1 h2 => ⟨rfl, h1, fun o ho => ?_⟩, fun i o hi ho => ⟨o, ?_, Nat.le_refl _, rfl, fun _ => ⟨rfl, rfl, rfl⟩⟩⟩⟩
  · have hrow : o.row ∈ (pickRows st sel).map (selRow sel) := by rw [← hstR]; exact List.mem_map.2 ⟨o, List.mem_of_getElem? ho, rfl⟩
    obtain ⟨id, o0, hid, ho0, rfl⟩ := hget j o ho
    have hok := hr.rows id o0 ho0
    refine ⟨hok.pos, fun x hx => ⟨?_, hl _ hrow x hx⟩, fun hb => ?_, fun b hb => ?_, hok.mo, hok.deep.mapped (ren1 sel) (fun _ _ _ _ h => ren1_dv h) rfl rfl rfl rfl⟩
    · simp only [so, selRow, List.mem_map] at hx
      obtain ⟨y, hy, rfl⟩ := hx
      simpa [so, selRow] using (hok.lens y hy).1
    · obtain ⟨h1, h2⟩ := hok.none hb
      exact ⟨by simp [so, selRow, h1], h2⟩
    · obtain ⟨h1, cur, h2, h3, h4, h5, h6⟩ := hok.some b hb
      refine ⟨h1, cur, h2, h3, by simpa [so, selRow] using h4, h5, fun i x hx j' c hc => ?_⟩
      simp only [so, selRow, List.getElem?_map, Option.map_eq_some_iff] at hx
      obtain ⟨y, hy, rfl⟩ := hx
      simp only [List.getElem?_map, Option.map_eq_some_iff] at hc
      obtain ⟨c0, hc0, rfl⟩ := hc
      obtain ⟨u, e1, e2⟩ := h6 i y hy j' c0 hc0
      exact ⟨u, e1, hren1 _ _ e2⟩
  · obtain ⟨id, o0, hid, ho0, rfl⟩ := hget i oi hi
    obtain ⟨id', o0', hid', ho0', rfl⟩ := hget j oj hj
    have he := hr.inj id id' o0 o0' b ho0 ho0' hbi hbj
    subst he
    obtain ⟨hi1, hi2⟩ := List.getElem?_eq_some_iff.1 hid
    obtain ⟨hj1, hj2⟩ := List.getElem?_eq_some_iff.1 hid'
    have hp := List.pairwise_iff_getElem.1 hnd
    rcases Nat.lt_trichotomy i j with h | h | h
    · exact absurd (hi2.trans hj2.symm) (hp i j hi1 hj1 h)
    · exact h
    · exact absurd (hj2.trans hi2.symm) (hp j i hj1 hi1 h)
  · simp only [os2, List.mem_map, List.mem_filterMap] at ho
    obtain ⟨o0, ⟨i, _, hi⟩, rfl⟩ := ho
    exact h2 o0 (List.mem_of_getElem? hi)
  · simp only [os2, List.getElem?_map]
    rw [hos1 i i (hk' i hi), ho]
    have hrow : st[i]? = some o.row := by
      have h0 : os.map Own.row = st := hr.st
      rw [← h0, List.getElem?_map, ho]; rfl
    have := hkr i hi o.row hrow
    simp only [Option.map_some, so, this]

theorem Wk.selR {n : Nat} {e : Nat → AV} {st st' : List Row} {L : List (Nat × AV)} (sel : List Nat) (hk : sel.take k = List.range k) (hkr : ∀ i, i < k → ∀ row, st[i]? = some row → selRow sel row = row) (hnd : sel.Nodup) (hlt : sel.all (· < st.length) = true)
    (hst : (pickRows st sel).map (selRow sel) = st') (hl : leafRows st') (h : ME (fun t => ren sel (e t)) L) : Wk k ⟨n, e, st⟩ ⟨n, envL L, st'⟩ := by
  subst hst
  exact (Wk.selectR sel hk hkr hnd (fun i hi => by simpa using List.all_eq_true.1 hlt i hi) hl).trans (Wk.to h)

/-- Rows after a renumbering, printed. -/
inductive SR (sel : List Nat) : List Row → List Row → Prop
  | nil : SR sel [] []
  | deep {g size : Nat} {el : TypeId} {xs : List (List AV)} {r r' : List Row} (hp : pureRow' xs) (hl : SR sel r r') : SR sel (⟨g, el, size, xs⟩ :: r) (⟨g, el, size, xs⟩ :: r')
  | raw {g size : Nat} {el : TypeId} {cs cs' : List AV} {r r' : List Row} (hc : cs.map (ren1 sel) = cs') (hp : cs'.all AV.leaf = true) (hl : SR sel r r') : SR sel (⟨g, el, size, [cs]⟩ :: r) (⟨g, el, size, [cs']⟩ :: r')

theorem SR.pure {sel : List Nat} {g size : Nat} {el : TypeId} {xs : List (List AV)} {r r' : List Row} (hp : pureRow xs) (hl : SR sel r r') : SR sel (⟨g, el, size, xs⟩ :: r) (⟨g, el, size, xs⟩ :: r') := .deep hp.any hl

theorem ren1_simple' {sel : List Nat} {c : AV} (h : simple' c = true) : ren1 sel c = c := by cases c <;> simp [simple', simple, ren1] at h ⊢
theorem ren1_simple {sel : List Nat} {c : AV} (h : simple c = true) : ren1 sel c = c := by cases c <;> simp [simple, ren1] at h ⊢

theorem SR.spec {sel : List Nat} {st0 : List Row} (hle : ∀ row ∈ st0, ∀ x ∈ row.xs, ∀ c ∈ x, c.kept = true) : ∀ {l l' : List Row}, SR sel l l' → (∀ row ∈ l, row ∈ st0) → l.map (selRow sel) = l' ∧ leafRows l'
  | _, _, .nil, _ => ⟨rfl, fun _ h => by cases h⟩
  | _, _, .deep hp hl, hm => by
    obtain ⟨h1, h2⟩ := SR.spec hle hl (fun row h => hm row (List.mem_cons_of_mem _ h))
    have hlf := hle _ (hm _ (List.mem_cons_self ..))
    refine ⟨?_, ?_⟩
    · simp only [List.map_cons, h1]
      congr 1
      simp only [selRow]
      congr 1
      refine (List.map_congr_left (g := id) fun x hx => ?_).trans (List.map_id _)
      refine (List.map_congr_left (g := id) fun c hc => ?_).trans (List.map_id _)
      exact ren1_simple' (hp x hx c hc)
    · intro row hrow
      rcases List.mem_cons.1 hrow with rfl | h
      · exact hlf
      · exact h2 row h
  | _, _, .raw hc hp hl, hm => by
    obtain ⟨h1, h2⟩ := SR.spec hle hl (fun row h => hm row (List.mem_cons_of_mem _ h))
    refine ⟨?_, ?_⟩
    · simp only [List.map_cons, h1, selRow, List.map_nil, hc]
    · intro row hrow
      rcases List.mem_cons.1 hrow with rfl | h
      · intro x hx c hcx
        simp only [List.mem_singleton] at hx
        subst hx
        exact AV.kept_leaf (List.all_eq_true.1 hp c hcx)
      · exact h2 row h

theorem rel_leaf {n : Nat} {e : Nat → AV} {st : List Row} (hr : Rel F os ⟨n, e, st⟩ a w) : ∀ row ∈ st, ∀ x ∈ row.xs, ∀ c ∈ x, c.kept = true := fun row hrow x hx c hc => by
  have hst := hr.st
  simp only at hst
  rw [← hst] at hrow
  obtain ⟨o, ho, rfl⟩ := List.mem_map.1 hrow
  obtain ⟨i, hi⟩ := List.mem_iff_getElem?.1 ho
  exact ((hr.rows i o hi).lens x hx).2 c hc

/-- Rows in another order: printed. -/
theorem Wk.perm {n : Nat} {e : Nat → AV} {st st1 st' : List Row} {L : List (Nat × AV)} (sel : List Nat) (hnd : sel.Nodup) (hlt : sel.all (· < st.length) = true) (hp : pickRows st sel = st1) (hs : SR sel st1 st') (h : ME (fun t => ren sel (e t)) L) :
    Wk 0 ⟨n, e, st⟩ ⟨n, envL L, st'⟩ := fun F os a w hr => by
  have hle := rel_leaf hr
  obtain ⟨h1, h2⟩ := hs.spec (st0 := st) hle (fun row hrow => by
    rw [← hp] at hrow
    obtain ⟨i, _, hi⟩ := List.mem_filterMap.1 hrow
    exact List.mem_of_getElem? hi)
  exact Wk.selR sel (by simp) (fun i hi => absurd hi (Nat.not_lt_zero _)) hnd hlt (by rw [hp]; exact h1) h2 h F os a w hr

/-! ### A row's count of turnings, one more -/

def bp1 (id g : Nat) : AV → AV
  | .own id' g' n => if id' = id ∧ g' = g then .own id (g + 1) n else .own id' g' n
  | .ptr id' g' i off => if id' = id ∧ g' = g then .ptr id (g + 1) i off else .ptr id' g' i off
  | .fn .. | .agg _ | .tup _ => .junk
  | v => v
theorem bp1_dv {id g : Nat} {c : AV} {el s : Nat} {ys : List (List AV)} (h : bp1 id g c = .dv el s ys) : c = .dv el s ys := by
  cases c <;> simp only [bp1] at h <;> first | exact h | cases h | (repeat' split at h) <;> first | cases h | exact h

def bp (id g : Nat) : AV → AV
  | .fn f cs => .fn f (cs.map (bp1 id g))
  | .agg cs => .agg (cs.map (bp1 id g))
  | .tup cs => .tup (cs.map (bp1 id g))
  | v => bp1 id g v

def bpRow (id g : Nat) (row : Row) : Row := { row with xs := row.xs.map (·.map (bp1 id g)) }
def bpUp (row : Row) : Row := { row with gen := row.gen + 1 }

theorem bp1_simple {id g : Nat} {c : AV} (h : simple c = true) : bp1 id g c = c := by cases c <;> simp [simple, bp1] at h ⊢

theorem Wk.bumpS {n : Nat} {e : Nat → AV} {st : List Row} {id : Nat} {row : Row} (hrow : st[id]? = some row) (hl : leafRows (st.map (bpRow id row.gen))) :
    Wk k ⟨n, e, st⟩ ⟨n, fun t => bp id row.gen (e t), (st.map (bpRow id row.gen)).modify id bpUp⟩ := fun F os a w hr => by
  let so : Nat → Own → Own := fun i o => { o with row := if i = id then bpUp (bpRow id row.gen o.row) else bpRow id row.gen o.row }
  let os2 := os.mapIdx so
  have hst0 : os.map Own.row = st := hr.st
  obtain ⟨oi, hoi, hoir⟩ : ∃ o, os[id]? = some o ∧ o.row = row := by
    rw [← hst0, List.getElem?_map, Option.map_eq_some_iff] at hrow
    exact hrow
  have hget : ∀ i, os2[i]? = (os[i]?).map (so i) := fun i => by simp [os2]
  have hsx : ∀ i o, (so i o).row.xs = o.row.xs.map (·.map (bp1 id row.gen)) := fun i o => by
    simp only [so]; split <;> rfl
  have hsz : ∀ i o, (so i o).row.size = o.row.size := fun i o => by simp only [so]; split <;> rfl
  have hse : ∀ i o, (so i o).row.elem = o.row.elem := fun i o => by simp only [so]; split <;> rfl
  have hsg : ∀ i o, (so i o).row.gen = if i = id then o.row.gen + 1 else o.row.gen := fun i o => by simp only [so]; split <;> rfl
  have hb1 : ∀ x v, Rep F w os x v → Rep F w os2 (bp1 id row.gen x) v := fun x v h => by
    cases x with
    | own id' g' n' =>
      simp only [Rep] at h
      obtain ⟨o, h1, h2, h3, h4⟩ := h
      simp only [bp1]
      by_cases hc : id' = id ∧ g' = row.gen
      · rw [if_pos hc]
        obtain ⟨rfl, rfl⟩ := hc
        have : o = oi := by rw [hoi] at h1; cases h1; rfl
        subst this
        simp only [Rep]
        refine ⟨so id' o, by rw [hget, hoi]; rfl, by rw [hsg]; simp [hoir], h3, fun _ => ?_⟩
        obtain ⟨a1, a2⟩ := h4 (by rw [hoir])
        exact ⟨by rw [hsx]; simpa using a1, a2⟩
      · rw [if_neg hc]
        simp only [Rep]
        refine ⟨so id' o, by rw [hget, h1]; rfl, by rw [hsg]; split <;> omega, h3, fun hg => ?_⟩
        rw [hsg] at hg
        by_cases hi : id' = id
        · subst hi
          rw [hoi] at h1; cases h1
          rw [if_pos rfl] at hg
          omega
        · rw [if_neg hi] at hg
          obtain ⟨a1, a2⟩ := h4 hg
          exact ⟨by rw [hsx]; simpa using a1, a2⟩
    | ptr id' g' i' off =>
      simp only [Rep] at h
      obtain ⟨o, h1, h2, h3, h4⟩ := h
      simp only [bp1]
      by_cases hc : id' = id ∧ g' = row.gen
      · rw [if_pos hc]
        obtain ⟨rfl, rfl⟩ := hc
        have : o = oi := by rw [hoi] at h1; cases h1; rfl
        subst this
        simp only [Rep]
        refine ⟨so id' o, by rw [hget, hoi]; rfl, by rw [hsg]; simp [hoir], h3, fun _ => ?_⟩
        obtain ⟨a1, a2, a3⟩ := h4 (by rw [hoir])
        exact ⟨by rw [hsx]; simpa using a1, by rw [hsz]; exact a2, by rw [hsz]; exact a3⟩
      · rw [if_neg hc]
        simp only [Rep]
        refine ⟨so id' o, by rw [hget, h1]; rfl, by rw [hsg]; split <;> omega, h3, fun hg => ?_⟩
        rw [hsg] at hg
        by_cases hi : id' = id
        · subst hi
          rw [hoi] at h1; cases h1
          rw [if_pos rfl] at hg
          omega
        · rw [if_neg hi] at hg
          obtain ⟨a1, a2, a3⟩ := h4 hg
          exact ⟨by rw [hsx]; simpa using a1, by rw [hsz]; exact a2, by rw [hsz]; exact a3⟩
    | fn f caps => simp [bp1, Rep]
    | agg cs => simp [bp1, Rep]
    | tup cs => simp [bp1, Rep]
    | _ => simp only [bp1, Rep] at h ⊢ <;> exact h
  have hbL : ∀ cs us, RepL F w os cs us → RepL F w os2 (cs.map (bp1 id row.gen)) us := fun cs us h =>
    repL_mk (by simp [repL_length h]) fun i x u hx hu => by
      simp only [List.getElem?_map, Option.map_eq_some_iff] at hx
      obtain ⟨y, hy, rfl⟩ := hx
      obtain ⟨u', hu', hr'⟩ := repL_get h i y hy
      rw [hu'] at hu; cases hu
      exact hb1 _ _ hr'
  have hb : ∀ x v, Rep F w os x v → Rep F w os2 (bp id row.gen x) v := fun x v h => by
    cases x with
    | fn f cs => simp only [bp, Rep] at h ⊢; obtain ⟨us, e, hl⟩ := h; exact ⟨us, e, hbL _ _ hl⟩
    | agg cs => simp only [bp, Rep] at h ⊢; obtain ⟨us, e, hl⟩ := h; exact ⟨us, e, hbL _ _ hl⟩
    | tup cs => simp only [bp, Rep] at h ⊢; obtain ⟨us, e, hl⟩ := h; exact ⟨us, e, hbL _ _ hl⟩
    | _ => exact hb1 _ _ h
  have hst2 : os2.map Own.row = (st.map (bpRow id row.gen)).modify id bpUp := by
    apply List.ext_getElem?
    intro i
    rw [List.getElem?_map, hget, List.getElem?_modify, List.getElem?_map, ← hst0, List.getElem?_map]
    cases os[i]? with
    | none => rfl
    | some o =>
      simp only [Option.map_some, so]
      by_cases hi : i = id
      · simp [hi]
      · have : ¬ id = i := fun h => hi h.symm
        simp [hi, this]
  refine ⟨F, os2, ⟨hst2, fun t => hb _ _ (hr.env t), hr.size, fun i o ho => ?_, fun i j oi' oj' b hi hj hbi hbj => ?_, hr.old, hr.defers⟩, ⟨rfl, rfl, rfl, Nat.le_refl _, fun _ h => h, fun _ _ => rfl, fun b _ h1 h2 => ⟨rfl, h1, fun o ho => ?_⟩, fun i o hi ho => ⟨so i o, by rw [hget, ho]; rfl, by rw [hsg]; split <;> omega, hsz i o, fun _ => ⟨rfl, rfl, by rw [hsx]; simp⟩⟩⟩⟩
  · rw [hget, Option.map_eq_some_iff] at ho
    obtain ⟨o0, ho0, rfl⟩ := ho
    have hok := hr.rows i o0 ho0
    have hm : bpRow id row.gen o0.row ∈ st.map (bpRow id row.gen) := List.mem_map.2 ⟨o0.row, by rw [← hst0]; exact List.mem_map.2 ⟨o0, List.mem_of_getElem? ho0, rfl⟩, rfl⟩
    refine ⟨by rw [hsz]; exact hok.pos, fun x hx => ?_, fun hbn => ?_, fun b hbb => ?_, hok.mo, hok.deep.mapped (bp1 id row.gen) (fun _ _ _ _ h => bp1_dv h) rfl rfl (hsz _ _) (hsx _ _)⟩
    · rw [hsx] at hx
      refine ⟨?_, hl _ hm x hx⟩
      obtain ⟨y, hy, rfl⟩ := List.mem_map.1 hx
      rw [hsz, List.length_map]; exact (hok.lens y hy).1
    · obtain ⟨h1, h2⟩ := hok.none hbn
      exact ⟨by rw [hsx, h1]; rfl, h2⟩
    · obtain ⟨h1, cur, h2, h3, h4, h5, h6⟩ := hok.some b hbb
      refine ⟨h1, cur, by rw [hse]; exact h2, by rw [hsz]; exact h3, by rw [hsx, List.length_map]; exact h4, h5, fun i' x hx j c hc => ?_⟩
      rw [hsx, List.getElem?_map, Option.map_eq_some_iff] at hx
      obtain ⟨y, hy, rfl⟩ := hx
      rw [List.getElem?_map, Option.map_eq_some_iff] at hc
      obtain ⟨c0, hc0, rfl⟩ := hc
      obtain ⟨u, e1, e2⟩ := h6 i' y hy j c0 hc0
      exact ⟨u, by rw [hsz]; exact e1, hb1 _ _ e2⟩
  · rw [hget, Option.map_eq_some_iff] at hi hj
    obtain ⟨o1, ho1, rfl⟩ := hi
    obtain ⟨o2, ho2, rfl⟩ := hj
    exact hr.inj i j o1 o2 b ho1 ho2 hbi hbj
  · obtain ⟨i, hi⟩ := List.mem_iff_getElem?.1 ho
    rw [hget, Option.map_eq_some_iff] at hi
    obtain ⟨o0, h0, rfl⟩ := hi
    exact h2 o0 (List.mem_of_getElem? h0)

/-- Rows after that, printed. -/
inductive BR (id g : Nat) : List Row → List Row → Prop
  | nil : BR id g [] []
  | deep {g' size : Nat} {el : TypeId} {xs : List (List AV)} {r r' : List Row} (hp : pureRow' xs) (hl : BR id g r r') : BR id g (⟨g', el, size, xs⟩ :: r) (⟨g', el, size, xs⟩ :: r')
  | raw {g' size : Nat} {el : TypeId} {cs cs' : List AV} {r r' : List Row} (hc : cs.map (bp1 id g) = cs') (hp : cs'.all AV.leaf = true) (hl : BR id g r r') : BR id g (⟨g', el, size, [cs]⟩ :: r) (⟨g', el, size, [cs']⟩ :: r')

theorem BR.pure {id g : Nat} {g' size : Nat} {el : TypeId} {xs : List (List AV)} {r r' : List Row} (hp : pureRow xs) (hl : BR id g r r') : BR id g (⟨g', el, size, xs⟩ :: r) (⟨g', el, size, xs⟩ :: r') := .deep hp.any hl

theorem bp1_simple' {id g : Nat} {c : AV} (h : simple' c = true) : bp1 id g c = c := by cases c <;> simp [simple', simple, bp1] at h ⊢

theorem BR.spec {id g : Nat} {st0 : List Row} (hle : ∀ row ∈ st0, ∀ x ∈ row.xs, ∀ c ∈ x, c.kept = true) : ∀ {l l' : List Row}, BR id g l l' → (∀ row ∈ l, row ∈ st0) → l.map (bpRow id g) = l' ∧ leafRows l'
  | _, _, .nil, _ => ⟨rfl, fun _ h => by cases h⟩
  | _, _, .deep hp hl, hm => by
    obtain ⟨h1, h2⟩ := BR.spec hle hl (fun row h => hm row (List.mem_cons_of_mem _ h))
    have hlf := hle _ (hm _ (List.mem_cons_self ..))
    refine ⟨?_, ?_⟩
    · simp only [List.map_cons, h1]
      congr 1
      simp only [bpRow]
      congr 1
      refine (List.map_congr_left (g := fun x => x) fun x hx => ?_).trans (List.map_id _)
      refine (List.map_congr_left (g := fun x => x) fun c hc => ?_).trans (List.map_id _)
      exact bp1_simple' (hp x hx c hc)
    · intro row hrow
      rcases List.mem_cons.1 hrow with rfl | h
      · exact hlf
      · exact h2 row h
  | _, _, .raw hc hp hl, hm => by
    obtain ⟨h1, h2⟩ := BR.spec hle hl (fun row h => hm row (List.mem_cons_of_mem _ h))
    refine ⟨?_, ?_⟩
    · simp only [List.map_cons, h1, bpRow, List.map_nil, hc]
    · intro row hrow
      rcases List.mem_cons.1 hrow with rfl | h
      · intro x hx c hcx
        simp only [List.mem_singleton] at hx
        subst hx
        exact AV.kept_leaf (List.all_eq_true.1 hp c hcx)
      · exact h2 row h

theorem Wk.bump {n : Nat} {e : Nat → AV} {st st1 st' : List Row} {L : List (Nat × AV)} (id : Nat) {row : Row} (hrow : st[id]? = some row) (hb : BR id row.gen st st1) (hst : st1.modify id bpUp = st') (h : ME (fun t => bp id row.gen (e t)) L) : Wk k ⟨n, e, st⟩ ⟨n, envL L, st'⟩ := fun F os a w hr => by
  obtain ⟨h1, h2⟩ := hb.spec (st0 := st) (rel_leaf hr) (fun _ h => h)
  have h3 := Wk.bumpS (k := k) (n := n) (e := e) hrow (by rw [h1]; exact h2)
  rw [h1, hst] at h3
  exact (h3.trans (Wk.to h)) F os a w hr

/-! ### The counts begin anew, but for the first rows -/

def rk1 (m : Nat) (st : List Row) : AV → AV
  | .own id g n => if id < m then .own id g n else match st[id]? with
    | some row => if row.gen = g then .own id 0 n else .junk
    | none => .junk
  | .ptr id g i off => if id < m then .ptr id g i off else match st[id]? with
    | some row => if row.gen = g then .ptr id 0 i off else .junk
    | none => .junk
  | .fn .. | .agg _ | .tup _ => .junk
  | v => v
theorem rk1_dv {m : Nat} {st : List Row} {c : AV} {el s : Nat} {ys : List (List AV)} (h : rk1 m st c = .dv el s ys) : c = .dv el s ys := by
  cases c <;> simp only [rk1] at h <;> first | exact h | cases h | (repeat' split at h) <;> first | cases h | exact h

def rk (m : Nat) (st : List Row) : AV → AV
  | .fn f cs => .fn f (cs.map (rk1 m st))
  | .agg cs => .agg (cs.map (rk1 m st))
  | .tup cs => .tup (cs.map (rk1 m st))
  | v => rk1 m st v
def rkRow (m : Nat) (st : List Row) (i : Nat) (row : Row) : Row := { row with gen := if i < m then row.gen else 0, xs := row.xs.map (·.map (rk1 m st)) }

theorem Wk.regenK {n : Nat} {e : Nat → AV} {st : List Row} (hl : leafRows (st.mapIdx (rkRow k st))) : Wk k ⟨n, e, st⟩ ⟨n, fun t => rk k st (e t), st.mapIdx (rkRow k st)⟩ := fun F os a w hr => by
  let so : Nat → Own → Own := fun i o => { o with row := rkRow k st i o.row }
  let os2 := os.mapIdx so
  have hst0 : os.map Own.row = st := hr.st
  have hget : ∀ i, os2[i]? = (os[i]?).map (so i) := fun i => by simp [os2]
  have hs : ∀ {id : Nat} {o : Own}, os[id]? = some o → st[id]? = some o.row := fun {id o} ho => by rw [← hst0, List.getElem?_map, ho]; rfl
  have h1 : ∀ x v, Rep F w os x v → Rep F w os2 (rk1 k st x) v := fun x v h => by
    cases x with
    | own id g n' =>
      simp only [Rep] at h
      obtain ⟨o, ho, hle, hsh, hv⟩ := h
      simp only [rk1, hs ho]
      by_cases hk : id < k
      · rw [if_pos hk]
        simp only [Rep]
        refine ⟨so id o, by rw [hget, ho]; rfl, by simp only [so, rkRow, hk, if_true]; exact hle, hsh, fun hg => ?_⟩
        simp only [so, rkRow, hk, if_true] at hg
        obtain ⟨a1, a2⟩ := hv hg
        exact ⟨by simpa [so, rkRow] using a1, a2⟩
      · rw [if_neg hk]
        split
        · rename_i e
          obtain ⟨a1, a2⟩ := hv e
          simp only [Rep]
          exact ⟨so id o, by rw [hget, ho]; rfl, Nat.zero_le _, hsh, fun _ => ⟨by simpa [so, rkRow] using a1, a2⟩⟩
        · simp [Rep]
    | ptr id g i off =>
      simp only [Rep] at h
      obtain ⟨o, ho, hle, hsh, hv⟩ := h
      simp only [rk1, hs ho]
      by_cases hk : id < k
      · rw [if_pos hk]
        simp only [Rep]
        refine ⟨so id o, by rw [hget, ho]; rfl, by simp only [so, rkRow, hk, if_true]; exact hle, hsh, fun hg => ?_⟩
        simp only [so, rkRow, hk, if_true] at hg
        obtain ⟨a1, a2, a3⟩ := hv hg
        exact ⟨by simpa [so, rkRow] using a1, a2, a3⟩
      · rw [if_neg hk]
        split
        · rename_i e
          obtain ⟨a1, a2, a3⟩ := hv e
          simp only [Rep]
          exact ⟨so id o, by rw [hget, ho]; rfl, Nat.zero_le _, hsh, fun _ => ⟨by simpa [so, rkRow] using a1, a2, a3⟩⟩
        · simp [Rep]
    | fn f caps => simp [rk1, Rep]
    | agg cs => simp [rk1, Rep]
    | tup cs => simp [rk1, Rep]
    | _ => simp only [rk1, Rep] at h ⊢ <;> exact h
  have hL : ∀ cs us, RepL F w os cs us → RepL F w os2 (cs.map (rk1 k st)) us := fun cs us h =>
    repL_mk (by simp [repL_length h]) fun i x u hx hu => by
      simp only [List.getElem?_map, Option.map_eq_some_iff] at hx
      obtain ⟨y, hy, rfl⟩ := hx
      obtain ⟨u', hu', hr'⟩ := repL_get h i y hy
      rw [hu'] at hu; cases hu
      exact h1 _ _ hr'
  have hb : ∀ x v, Rep F w os x v → Rep F w os2 (rk k st x) v := fun x v h => by
    cases x with
    | fn f cs => simp only [rk, Rep] at h ⊢; obtain ⟨us, e, hl⟩ := h; exact ⟨us, e, hL _ _ hl⟩
    | agg cs => simp only [rk, Rep] at h ⊢; obtain ⟨us, e, hl⟩ := h; exact ⟨us, e, hL _ _ hl⟩
    | tup cs => simp only [rk, Rep] at h ⊢; obtain ⟨us, e, hl⟩ := h; exact ⟨us, e, hL _ _ hl⟩
    | _ => exact h1 _ _ h
  have hst2 : os2.map Own.row = st.mapIdx (rkRow k st) := by
    apply List.ext_getElem?
    intro i
    have e1 : st[i]? = (os[i]?).map Own.row := by rw [← hst0, List.getElem?_map]
    rw [List.getElem?_map, hget, List.getElem?_mapIdx, e1]
    cases os[i]? <;> rfl
  refine ⟨F, os2, ⟨hst2, fun t => hb _ _ (hr.env t), hr.size, fun i o ho => ?_, fun i j oi' oj' b hi hj hbi hbj => ?_, hr.old, hr.defers⟩, ⟨rfl, rfl, rfl, Nat.le_refl _, fun _ h => h, fun _ _ => rfl, fun b _ h1 h2 => ⟨rfl, h1, fun o ho => ?_⟩, fun i o hi ho => ⟨so i o, by rw [hget, ho]; rfl, by simp [so, rkRow, hi], rfl, fun _ => ⟨rfl, rfl, by simp [so, rkRow]⟩⟩⟩⟩
  · rw [hget, Option.map_eq_some_iff] at ho
    obtain ⟨o0, ho0, rfl⟩ := ho
    have hok := hr.rows i o0 ho0
    have hm : (so i o0).row ∈ st.mapIdx (rkRow k st) := by
      rw [← hst2]
      exact List.mem_map.2 ⟨so i o0, List.mem_of_getElem? (by rw [hget, ho0]; rfl), rfl⟩
    refine ⟨hok.pos, fun x hx => ⟨?_, hl _ hm x hx⟩, fun hbn => ?_, fun b hbb => ?_, hok.mo, hok.deep.mapped (rk1 k st) (fun _ _ _ _ h => rk1_dv h) rfl rfl rfl rfl⟩
    · simp only [so, rkRow, List.mem_map] at hx
      obtain ⟨y, hy, rfl⟩ := hx
      simpa [so, rkRow] using (hok.lens y hy).1
    · obtain ⟨h1, h2⟩ := hok.none hbn
      exact ⟨by simp [so, rkRow, h1], h2⟩
    · obtain ⟨g1, cur, h2, h3, h4, h5, h6⟩ := hok.some b hbb
      refine ⟨g1, cur, h2, h3, by simpa [so, rkRow] using h4, h5, fun i' x hx j c hc => ?_⟩
      simp only [so, rkRow, List.getElem?_map, Option.map_eq_some_iff] at hx
      obtain ⟨y, hy, rfl⟩ := hx
      simp only [List.getElem?_map, Option.map_eq_some_iff] at hc
      obtain ⟨c0, hc0, rfl⟩ := hc
      obtain ⟨u, e1, e2⟩ := h6 i' y hy j c0 hc0
      exact ⟨u, e1, h1 _ _ e2⟩
  · rw [hget, Option.map_eq_some_iff] at hi hj
    obtain ⟨o1, ho1, rfl⟩ := hi
    obtain ⟨o2, ho2, rfl⟩ := hj
    exact hr.inj i j o1 o2 b ho1 ho2 hbi hbj
  · obtain ⟨i, hi⟩ := List.mem_iff_getElem?.1 ho
    rw [hget, Option.map_eq_some_iff] at hi
    obtain ⟨o0, h0, rfl⟩ := hi
    exact h2 o0 (List.mem_of_getElem? h0)

/-- Rows after that, printed: from place i on. -/
inductive KR (m : Nat) (st : List Row) : Nat → List Row → List Row → Prop
  | nil {i : Nat} : KR m st i [] []
  | deep {i g g' size : Nat} {el : TypeId} {xs : List (List AV)} {r r' : List Row} (hg : g' = if i < m then g else 0) (hp : pureRow' xs) (hl : KR m st (i + 1) r r') : KR m st i (⟨g, el, size, xs⟩ :: r) (⟨g', el, size, xs⟩ :: r')
  | raw {i g g' size : Nat} {el : TypeId} {cs cs' : List AV} {r r' : List Row} (hg : g' = if i < m then g else 0) (hc : cs.map (rk1 m st) = cs') (hp : cs'.all AV.leaf = true) (hl : KR m st (i + 1) r r') : KR m st i (⟨g, el, size, [cs]⟩ :: r) (⟨g', el, size, [cs']⟩ :: r')

theorem KR.pure {m : Nat} {st : List Row} {i g g' size : Nat} {el : TypeId} {xs : List (List AV)} {r r' : List Row} (hg : g' = if i < m then g else 0) (hp : pureRow xs) (hl : KR m st (i + 1) r r') : KR m st i (⟨g, el, size, xs⟩ :: r) (⟨g', el, size, xs⟩ :: r') := .deep hg hp.any hl

theorem rk1_simple' {m : Nat} {st : List Row} {c : AV} (h : simple' c = true) : rk1 m st c = c := by cases c <;> simp [simple', simple, rk1] at h ⊢
theorem rk1_simple {m : Nat} {st : List Row} {c : AV} (h : simple c = true) : rk1 m st c = c := by cases c <;> simp [simple, rk1] at h ⊢

theorem KR.spec {m : Nat} {st st0 : List Row} (hle : ∀ row ∈ st0, ∀ x ∈ row.xs, ∀ c ∈ x, c.kept = true) : ∀ {i : Nat} {l l' : List Row}, KR m st i l l' → (∀ row ∈ l, row ∈ st0) → l.mapIdx (fun j => rkRow m st (i + j)) = l' ∧ leafRows l'
  | _, _, _, .nil, _ => ⟨rfl, fun _ h => by cases h⟩
  | i, _, _, .deep (r := r) hg hp hl, hm => by
    obtain ⟨h1, h2⟩ := KR.spec hle hl (fun row h => hm row (List.mem_cons_of_mem _ h))
    have hlf := hle _ (hm _ (List.mem_cons_self ..))
    refine ⟨?_, ?_⟩
    · rw [List.mapIdx_cons]
      have e : (fun j => rkRow m st (i + (j + 1))) = fun j => rkRow m st (i + 1 + j) := by funext j; congr 1; omega
      rw [e, h1]
      congr 1
      subst hg
      simp only [rkRow, Nat.add_zero]
      congr 1
      refine (List.map_congr_left (g := fun x => x) fun x hx => ?_).trans (List.map_id _)
      refine (List.map_congr_left (g := fun x => x) fun c hc => ?_).trans (List.map_id _)
      exact rk1_simple' (hp x hx c hc)
    · intro row hrow
      rcases List.mem_cons.1 hrow with rfl | h
      · exact hlf
      · exact h2 row h
  | i, _, _, .raw hg hc hp hl, hm => by
    obtain ⟨h1, h2⟩ := KR.spec hle hl (fun row h => hm row (List.mem_cons_of_mem _ h))
    refine ⟨?_, ?_⟩
    · rw [List.mapIdx_cons]
      have e : (fun j => rkRow m st (i + (j + 1))) = fun j => rkRow m st (i + 1 + j) := by funext j; congr 1; omega
      rw [e, h1]
      subst hg
      simp only [rkRow, Nat.add_zero, List.map_cons, List.map_nil, hc]
    · intro row hrow
      rcases List.mem_cons.1 hrow with rfl | h
      · intro x hx c hcx
        simp only [List.mem_singleton] at hx
        subst hx
        exact AV.kept_leaf (List.all_eq_true.1 hp c hcx)
      · exact h2 row h

theorem Wk.rk {n : Nat} {e : Nat → AV} {st st' : List Row} {L : List (Nat × AV)} (hg : KR k st 0 st st') (h : ME (fun t => Abs.rk k st (e t)) L) : Wk k ⟨n, e, st⟩ ⟨n, envL L, st'⟩ := fun F os a w hr => by
  obtain ⟨h1, h2⟩ := hg.spec (st0 := st) (rel_leaf hr) (fun _ h => h)
  simp only [Nat.zero_add] at h1
  have h3 := Wk.regenK (k := k) (n := n) (e := e) (st := st) (by rw [h1]; exact h2)
  rw [h1] at h3
  exact (h3.trans (Wk.to h)) F os a w hr
end Go.Abs

/- Calls that are handed some rows of the caller's, wherever they lie, and turn them, and make new ones. -/
namespace Go.Abs
open Go

variable {P : Program} {F : Nat → Prop} {os : List Own} {s : St} {a : Act} {w : World} {k : Nat}

/-- Where the callee's row lies with the caller. -/
def pos (sel : List Nat) (N p : Nat) : Nat := match sel[p]? with | some j => j | none => p - sel.length + N

def unr1 (sel : List Nat) (N : Nat) : AV → AV
  | .own id g n => .own (pos sel N id) g n
  | .ptr id g i off => .ptr (pos sel N id) g i off
  | .fn .. | .agg _ | .tup _ => .junk
  | v => v
theorem unr1_dv {sel : List Nat} {N : Nat} {c : AV} {el s : Nat} {ys : List (List AV)} (h : unr1 sel N c = .dv el s ys) : c = .dv el s ys := by
  cases c <;> simp only [unr1] at h <;> first | exact h | cases h

def unr (sel : List Nat) (N : Nat) : AV → AV
  | .fn f cs => .fn f (cs.map (unr1 sel N))
  | .agg cs => .agg (cs.map (unr1 sel N))
  | .tup cs => .tup (cs.map (unr1 sel N))
  | v => unr1 sel N v
def unRow (sel : List Nat) (N : Nat) (row : Row) : Row := { row with xs := row.xs.map (·.map (unr1 sel N)) }

def putRows (sel : List Nat) (rs : List Row) : Nat → List Row → List Row
  | _, [] => []
  | i, row :: st => (match idx sel i with | some p => (match rs[p]? with | some r => r | none => row) | none => row) :: putRows sel rs (i + 1) st

theorem putRows_get {sel : List Nat} {rs : List Row} : ∀ (st : List Row) (i j : Nat), (putRows sel rs i st)[j]? = (st[j]?).map fun row => match idx sel (i + j) with | some p => (match rs[p]? with | some r => r | none => row) | none => row
  | [], i, j => by simp [putRows]
  | row :: st, i, 0 => by simp [putRows]
  | row :: st, i, j + 1 => by
    simp only [putRows, List.getElem?_cons_succ]
    rw [putRows_get st (i + 1) j, show i + 1 + j = i + (j + 1) by omega]
theorem putRows_length {sel : List Nat} {rs : List Row} : ∀ (st : List Row) (i : Nat), (putRows sel rs i st).length = st.length
  | [], _ => rfl
  | _ :: st, i => by simp [putRows, putRows_length st (i + 1)]

theorem idx_some {sel : List Nat} {id j : Nat} (h : idx sel id = some j) : sel[j]? = some id := by
  unfold idx at h
  rw [List.findIdx?_eq_some_iff_getElem] at h
  obtain ⟨h1, h2, _⟩ := h
  rw [List.getElem?_eq_getElem h1]
  simpa using h2
theorem idx_of {sel : List Nat} (hnd : sel.Nodup) {id j : Nat} (h : sel[j]? = some id) : idx sel id = some j := by
  unfold idx
  obtain ⟨h1, h2⟩ := List.getElem?_eq_some_iff.1 h
  rw [List.findIdx?_eq_some_iff_getElem]
  refine ⟨h1, by simp [h2], fun i hi => ?_⟩
  have := List.pairwise_iff_getElem.1 hnd i j (by omega) h1 hi
  simp only [beq_iff_eq, ne_eq, Bool.not_eq_true, beq_eq_false_iff_ne]
  rw [← h2]; exact this
theorem idx_none {sel : List Nat} {id : Nat} (h : idx sel id = none) : id ∉ sel := by
  unfold idx at h
  rw [List.findIdx?_eq_none_iff] at h
  intro hm
  simpa using h id hm

/-- Rows whose count did not turn have the length that they had. -/
def LenKept (rows0 rows1 : List Row) : Prop := ∀ (j : Nat) r0 r1, rows0[j]? = some r0 → rows1[j]? = some r1 → r1.gen = r0.gen → r1.xs.length = r0.xs.length

theorem callThen_sel {f : FuncId} {args args' : List AV} {d : Option Tmp} {K : St → Prop} {rows0 rows1 rows2 : List Row} {v : AV} (sel : List Nat) (h : ACalls P f args' rows0 fun r st => r = v ∧ st = rows1 ++ rows2)
    (hnd : sel.Nodup) (hlt : ∀ i ∈ sel, i < s.st.length) (hs : (pickRows s.st sel).map (selRow sel) = rows0) (hl0 : leafRows rows0) (hargs : args.map (ren sel) = args') (hlen : rows1.length = sel.length) (hL : ∀ row ∈ rows1 ++ rows2, ∀ x ∈ row.xs, ∀ c ∈ x, c.kept = true → (unr1 sel s.st.length c).kept = true)
    (hK : LenKept rows0 rows1 → K ({ s with st := putRows sel (rows1.map (unRow sel s.st.length)) 0 s.st ++ rows2.map (unRow sel s.st.length) }.put d (unr sel s.st.length v))) : callThen P k s f args d K := by
  intro F os a w vs hr hl
  subst hs
  have hN : s.st.length = os.length := hr.len
  -- what is handed over
  have hos1 : ∀ (j id : Nat), sel[j]? = some id → (sel.filterMap (os[·]?))[j]? = os[id]? := by
    have : ∀ (l : List Nat), (∀ i ∈ l, i < os.length) → ∀ (j id : Nat), l[j]? = some id → (l.filterMap (os[·]?))[j]? = os[id]? := fun l => by
      induction l with
      | nil => intro _ j id h; simp at h
      | cons i l ih =>
        intro hl j id h
        have hi := hl i (by simp)
        rw [List.filterMap_cons, List.getElem?_eq_getElem hi]
        cases j with
        | zero => simp only [List.getElem?_cons_zero, Option.some.injEq] at h; subst h; simp [List.getElem?_eq_getElem hi]
        | succ j => simp only [List.getElem?_cons_succ] at h ⊢; exact ih (fun x hx => hl x (by simp [hx])) j id h
    exact this sel (fun i hi => by rw [← hN]; exact hlt i hi)
  let so : Own → Own := fun o => { o with row := selRow sel o.row }
  let osA := (sel.filterMap (os[·]?)).map so
  have hl2 : (sel.filterMap (os[·]?)).length = sel.length := by
    have : ∀ (l : List Nat), (∀ i ∈ l, i < os.length) → (l.filterMap (os[·]?)).length = l.length := fun l => by
      induction l with
      | nil => simp
      | cons i l ih => intro hl; rw [List.filterMap_cons, List.getElem?_eq_getElem (hl i (by simp))]; simp [ih (fun x hx => hl x (by simp [hx]))]
    exact this sel (fun i hi => by rw [← hN]; exact hlt i hi)
  have hget : ∀ (j : Nat) (o : Own), osA[j]? = some o → ∃ id o0, sel[j]? = some id ∧ os[id]? = some o0 ∧ o = so o0 := fun j o h => by
    simp only [osA, List.getElem?_map, Option.map_eq_some_iff] at h
    obtain ⟨o0, h0, rfl⟩ := h
    have hj : j < sel.length := by rw [← hl2]; exact (List.getElem?_eq_some_iff.1 h0).1
    refine ⟨sel[j], o0, List.getElem?_eq_getElem hj, ?_, rfl⟩
    rw [← hos1 j _ (List.getElem?_eq_getElem hj)]; exact h0
  have hidx : ∀ id j, idx sel id = some j → osA[j]? = (os[id]?).map so := fun id j hj => by
    simp only [osA, List.getElem?_map]
    rw [hos1 j id (idx_some hj)]
  have hren1 : ∀ x v, Rep F w os x v → Rep F w osA (ren1 sel x) v := fun x v h => by
    cases x with
    | own id g n =>
      simp only [ren1]
      split
      · rename_i j hj
        simp only [Rep] at h ⊢
        obtain ⟨o, h1, h2, h3, h4⟩ := h
        exact ⟨so o, by rw [hidx id j hj, h1]; rfl, h2, h3, fun hg => by
          obtain ⟨a1, a2⟩ := h4 hg
          exact ⟨by simpa [so, selRow] using a1, a2⟩⟩
      · simp [Rep]
    | ptr id g i off =>
      simp only [ren1]
      split
      · rename_i j hj
        simp only [Rep] at h ⊢
        obtain ⟨o, h1, h2, h3, h4⟩ := h
        exact ⟨so o, by rw [hidx id j hj, h1]; rfl, h2, h3, fun hg => by
          obtain ⟨a1, a2, a3⟩ := h4 hg
          exact ⟨by simpa [so, selRow] using a1, a2, a3⟩⟩
      · simp [Rep]
    | fn f cs => simp [ren1, Rep]
    | agg cs => simp [ren1, Rep]
    | tup cs => simp [ren1, Rep]
    | _ => simp only [ren1, Rep] at h ⊢ <;> exact h
  have hrenL : ∀ cs us, RepL F w os cs us → RepL F w osA (cs.map (ren1 sel)) us := fun cs us h =>
    repL_mk (by simp [repL_length h]) fun i x u hx hu => by
      simp only [List.getElem?_map, Option.map_eq_some_iff] at hx
      obtain ⟨y, hy, rfl⟩ := hx
      obtain ⟨u', hu', hr'⟩ := repL_get h i y hy
      rw [hu'] at hu; cases hu
      exact hren1 _ _ hr'
  have hren : ∀ x v, Rep F w os x v → Rep F w osA (ren sel x) v := fun x v h => by
    cases x with
    | fn f cs => simp only [ren, Rep] at h ⊢; obtain ⟨us, e, hl⟩ := h; exact ⟨us, e, hrenL _ _ hl⟩
    | agg cs => simp only [ren, Rep] at h ⊢; obtain ⟨us, e, hl⟩ := h; exact ⟨us, e, hrenL _ _ hl⟩
    | tup cs => simp only [ren, Rep] at h ⊢; obtain ⟨us, e, hl⟩ := h; exact ⟨us, e, hrenL _ _ hl⟩
    | _ => exact hren1 _ _ h
  have hstR : osA.map Own.row = (pickRows s.st sel).map (selRow sel) := by
    have h0 : os.map Own.row = s.st := hr.st
    simp only [osA, List.map_map, pickRows]
    rw [← h0]
    have hco : Own.row ∘ so = selRow sel ∘ Own.row := rfl
    rw [hco, ← List.map_map, List.map_filterMap]
    congr 1
    simp [Function.comp_def]
  have hSO : StoreOK F osA ((pickRows s.st sel).map (selRow sel)) w := by
    refine ⟨hstR, fun j o ho => ?_, fun i j oi oj b hi hj hbi hbj => ?_, hr.old⟩
    · obtain ⟨id, o0, hid, ho0, rfl⟩ := hget j o ho
      have hok := hr.rows id o0 ho0
      have hm : selRow sel o0.row ∈ (pickRows s.st sel).map (selRow sel) := by
        rw [← hstR]
        exact List.mem_map.2 ⟨so o0, List.mem_of_getElem? ho, rfl⟩
      refine ⟨hok.pos, fun x hx => ⟨?_, hl0 _ hm x hx⟩, fun hb => ?_, fun b hb => ?_, hok.mo, hok.deep.mapped (ren1 sel) (fun _ _ _ _ h => ren1_dv h) rfl rfl rfl rfl⟩
      · simp only [so, selRow, List.mem_map] at hx
        obtain ⟨y, hy, rfl⟩ := hx
        simpa [so, selRow] using (hok.lens y hy).1
      · obtain ⟨h1, h2⟩ := hok.none hb
        exact ⟨by simp [so, selRow, h1], h2⟩
      · obtain ⟨h1, cur, h2, h3, h4, h5, h6⟩ := hok.some b hb
        refine ⟨h1, cur, h2, h3, by simpa [so, selRow] using h4, h5, fun i x hx j' c hc => ?_⟩
        simp only [so, selRow, List.getElem?_map, Option.map_eq_some_iff] at hx
        obtain ⟨y, hy, rfl⟩ := hx
        simp only [List.getElem?_map, Option.map_eq_some_iff] at hc
        obtain ⟨c0, hc0, rfl⟩ := hc
        obtain ⟨u, e1, e2⟩ := h6 i y hy j' c0 hc0
        exact ⟨u, e1, hren1 _ _ e2⟩
    · obtain ⟨id, o0, hid, ho0, rfl⟩ := hget i oi hi
      obtain ⟨id', o0', hid', ho0', rfl⟩ := hget j oj hj
      have he := hr.inj id id' o0 o0' b ho0 ho0' hbi hbj
      subst he
      have h1 := idx_of hnd hid
      rw [idx_of hnd hid'] at h1
      exact (Option.some.inj h1).symm
  have hlA : RepL F w osA args' vs := by
    subst hargs
    exact repL_mk (by simp [repL_length hl]) fun i x u hx hu => by
      simp only [List.getElem?_map, Option.map_eq_some_iff] at hx
      obtain ⟨y, hy, rfl⟩ := hx
      obtain ⟨u', hu', hr'⟩ := repL_get hl i y hy
      rw [hu'] at hu; cases hu
      exact hren _ _ hr'
  refine (h F osA w vs hSO hlA).mono ?_
  rintro e w' ⟨u, r, st', F', os', rfl, ⟨rfl, rfl⟩, hs', hru, he⟩
  have hl' : os'.length = sel.length + rows2.length := by
    have := congrArg List.length hs'.st
    rw [List.length_map, List.length_append] at this
    omega
  have hpl : ((pickRows s.st sel).map (selRow sel)).length = sel.length := by
    rw [← hstR]; simp [osA, hl2]
  let N := s.st.length
  let un : Own → Own := fun o => { o with row := unRow sel N o.row }
  let f2 : Nat → Own → Own := fun i o => match idx sel i with | some p => (match os'[p]? with | some o' => un o' | none => o) | none => o
  let os2 := os.mapIdx f2 ++ (os'.drop sel.length).map un
  have hNl : (os.mapIdx f2).length = N := by simp [N, hN]
  have hgL : ∀ i, i < N → os2[i]? = (os[i]?).map (f2 i) := fun i hi => by
    simp only [os2]; rw [List.getElem?_append_left (by omega), List.getElem?_mapIdx]
  have hgP : ∀ p o', os'[p]? = some o' → os2[pos sel N p]? = some (un o') := fun p o' ho' => by
    unfold pos
    split
    · rename_i j hj
      have hjN : j < N := hlt j (List.mem_of_getElem? hj)
      rw [hgL j hjN, List.getElem?_eq_getElem (by omega)]
      simp only [Option.map_some, f2, idx_of hnd hj, ho']
    · rename_i hn
      have hp : sel.length ≤ p := List.getElem?_eq_none_iff.1 hn
      simp only [os2]
      rw [List.getElem?_append_right (by omega), hNl, List.getElem?_map, List.getElem?_drop, show sel.length + (p - sel.length + N - N) = p by omega, ho']
      rfl
  have hgO : ∀ i, i < N → idx sel i = none → os2[i]? = os[i]? := fun i hi hx => by
    rw [hgL i hi]
    have : f2 i = id := by funext o; simp [f2, hx]
    rw [this, Option.map_id]; rfl
  have hcase : ∀ i o, os2[i]? = some o → (∃ p o', os'[p]? = some o' ∧ o = un o' ∧ i = pos sel N p) ∨ (i < N ∧ idx sel i = none ∧ os[i]? = some o) := fun i o ho => by
    rcases Nat.lt_or_ge i N with hi | hi
    · rcases hx : idx sel i with _ | p
      · exact .inr ⟨hi, rfl, by rw [← hgO i hi hx]; exact ho⟩
      · have hp := idx_some hx
        have hpl2 : p < os'.length := by have := (List.getElem?_eq_some_iff.1 hp).1; omega
        have h1 := hgP p _ (List.getElem?_eq_getElem hpl2)
        have h2 : pos sel N p = i := by unfold pos; rw [hp]
        rw [h2, ho] at h1
        exact .inl ⟨p, _, List.getElem?_eq_getElem hpl2, Option.some.inj h1, h2.symm⟩
    · have ho2 := ho
      simp only [os2] at ho2
      rw [List.getElem?_append_right (by omega), hNl, List.getElem?_map, Option.map_eq_some_iff] at ho2
      obtain ⟨o', h1, h2⟩ := ho2
      rw [List.getElem?_drop] at h1
      refine .inl ⟨_, o', h1, h2.symm, ?_⟩
      unfold pos
      rw [List.getElem?_eq_none_iff.2 (by omega)]
      simp only; omega
  have hosle : HosLe os os2 := fun i o ho => by
    have hiN : i < N := by have := (List.getElem?_eq_some_iff.1 ho).1; omega
    rcases hx : idx sel i with _ | p
    · exact ⟨o, by rw [hgO i hiN hx]; exact ho, Nat.le_refl _, rfl, fun _ => ⟨rfl, rfl, rfl⟩⟩
    · have hp := idx_some hx
      have h1 : osA[p]? = some (so o) := by rw [hidx i p hx, ho]; rfl
      obtain ⟨o', ho', e1, e2, e3⟩ := he.pers p (so o) (by rw [hpl]; exact (List.getElem?_eq_some_iff.1 hp).1) h1
      refine ⟨un o', ?_, e1, e2, fun hg => ?_⟩
      · have := hgP p o' ho'
        unfold pos at this
        rw [hp] at this
        exact this
      · obtain ⟨g1, g2, g3⟩ := e3 hg
        exact ⟨g1, g2, by simpa [so, un, selRow, unRow] using g3⟩
  have hmono : ∀ x v, Rep F w os x v → Rep F' w' os2 x v := fun x v h => rep_mono he.fsub he.fsame os _ hosle x v h
  have hun1 : ∀ x v, Rep F' w' os' x v → Rep F' w' os2 (unr1 sel N x) v := fun x v h => by
    cases x with
    | own id g n =>
      simp only [unr1, Rep] at h ⊢
      obtain ⟨o, h1, h2, h3, h4⟩ := h
      exact ⟨un o, hgP _ _ h1, h2, h3, fun hg => by
        obtain ⟨a1, a2⟩ := h4 hg
        exact ⟨by simpa [un, unRow] using a1, a2⟩⟩
    | ptr id g i off =>
      simp only [unr1, Rep] at h ⊢
      obtain ⟨o, h1, h2, h3, h4⟩ := h
      exact ⟨un o, hgP _ _ h1, h2, h3, fun hg => by
        obtain ⟨a1, a2, a3⟩ := h4 hg
        exact ⟨by simpa [un, unRow] using a1, a2, a3⟩⟩
    | fn f cs => simp [unr1, Rep]
    | agg cs => simp [unr1, Rep]
    | tup cs => simp [unr1, Rep]
    | _ => simp only [unr1, Rep] at h ⊢ <;> exact h
  have hunL : ∀ cs us, RepL F' w' os' cs us → RepL F' w' os2 (cs.map (unr1 sel N)) us := fun cs us h =>
    repL_mk (by simp [repL_length h]) fun i x u hx hu => by
      simp only [List.getElem?_map, Option.map_eq_some_iff] at hx
      obtain ⟨y, hy, rfl⟩ := hx
      obtain ⟨u', hu', hr'⟩ := repL_get h i y hy
      rw [hu'] at hu; cases hu
      exact hun1 _ _ hr'
  have hunr : ∀ x v, Rep F' w' os' x v → Rep F' w' os2 (unr sel N x) v := fun x v h => by
    cases x with
    | fn f cs => simp only [unr, Rep] at h ⊢; obtain ⟨us, e, hl⟩ := h; exact ⟨us, e, hunL _ _ hl⟩
    | agg cs => simp only [unr, Rep] at h ⊢; obtain ⟨us, e, hl⟩ := h; exact ⟨us, e, hunL _ _ hl⟩
    | tup cs => simp only [unr, Rep] at h ⊢; obtain ⟨us, e, hl⟩ := h; exact ⟨us, e, hunL _ _ hl⟩
    | _ => exact hun1 _ _ h
  -- the rows that stay
  have hB : ∀ (i : Nat) (o : Own), idx sel i = none → os[i]? = some o → ∀ b, o.owns b → w'.heap[b]? = w.heap[b]? ∧ ¬ F' b ∧ ∀ o1 : Own, o1 ∈ os' → ¬ o1.owns b := fun i o hx ho b hb => by
    refine he.other b ((hr.rows _ o ho).lt hb) ((hr.rows _ o ho).nF hb) fun oA hoA e => ?_
    obtain ⟨j, hj⟩ := List.mem_iff_getElem?.1 hoA
    obtain ⟨id, o0, hid, ho0, rfl⟩ := hget j oA hj
    have := hr.inj id i o0 o b ho0 ho e hb
    subst this
    exact idx_none hx (List.mem_of_getElem? hid)
  have hrows : os2.map Own.row = putRows sel (rows1.map (unRow sel N)) 0 s.st ++ rows2.map (unRow sel N) := by
    simp only [os2, List.map_append]
    have hst : os'.map Own.row = rows1 ++ rows2 := hs'.st
    congr 1
    · apply List.ext_getElem?
      intro i
      rw [List.getElem?_map, List.getElem?_mapIdx, putRows_get, Nat.zero_add]
      have h0 : os.map Own.row = s.st := hr.st
      rw [← h0, List.getElem?_map]
      cases hoi : os[i]? with
      | none => rfl
      | some o =>
        simp only [Option.map_some, f2]
        cases hx : idx sel i with
        | none => rfl
        | some p =>
          have hpm : p < sel.length := (List.getElem?_eq_some_iff.1 (idx_some hx)).1
          have hp' : p < os'.length := by omega
          have h3 : (os'.map Own.row)[p]? = rows1[p]? := by rw [hst, List.getElem?_append_left (by omega)]
          rw [List.getElem?_map, List.getElem?_eq_getElem hp'] at h3
          simp only [List.getElem?_map, List.getElem?_eq_getElem hp', ← h3, Option.map_some, un]
    · rw [List.map_map]
      have hco : Own.row ∘ un = unRow sel N ∘ Own.row := rfl
      rw [hco, ← List.map_map, List.map_drop, hst]
      simp [← hlen]
  have hkept : LenKept ((pickRows s.st sel).map (selRow sel)) rows1 := fun j r0 r1 h0 h1 hg => by
    have hj : j < ((pickRows s.st sel).map (selRow sel)).length := (List.getElem?_eq_some_iff.1 h0).1
    rw [← hstR, List.getElem?_map, Option.map_eq_some_iff] at h0
    obtain ⟨oA, hoA, rfl⟩ := h0
    obtain ⟨o', ho', _, _, e3⟩ := he.pers j oA hj hoA
    have hst' : os'.map Own.row = rows1 ++ rows2 := hs'.st
    have h2 : (rows1 ++ rows2)[j]? = some o'.row := by rw [← hst', List.getElem?_map, ho']; rfl
    rw [List.getElem?_append_left (List.getElem?_eq_some_iff.1 h1).1, h1] at h2
    cases h2
    exact (e3 hg).2.2
  refine ⟨u, _, _, F', os2, rfl, hK hkept, ⟨hrows, fun t => hmono _ _ (hr.env t), hr.size, fun i o ho => ?_, fun i j oi oj b hi hj hbi hbj => ?_, hs'.old, hr.defers⟩, hunr _ _ hru, ⟨he.sys, he.tape, he.output, he.size, he.fsub, he.fsame, fun b hb h1 h2 => ?_, fun i o hi ho => hosle i o ho⟩⟩
  · rcases hcase i o ho with ⟨p, o', hp, rfl, rfl⟩ | ⟨h1, h2, ho2⟩
    · have hok := hs'.rows p o' hp
      refine ⟨hok.pos, fun x hx => ?_, fun hb => ?_, fun b hb => ?_, hok.mo, hok.deep.mapped (unr1 sel N) (fun _ _ _ _ h => unr1_dv h) rfl rfl rfl rfl⟩
      · simp only [un, unRow, List.mem_map] at hx
        obtain ⟨y, hy, rfl⟩ := hx
        obtain ⟨g1, g2⟩ := hok.lens y hy
        refine ⟨by simpa [un, unRow] using g1, fun c hc => ?_⟩
        obtain ⟨c0, hc0, rfl⟩ := List.mem_map.1 hc
        have hmem : o'.row ∈ rows1 ++ rows2 := by rw [← hs'.st]; exact List.mem_map.2 ⟨o', List.mem_of_getElem? hp, rfl⟩
        exact hL _ hmem y hy c0 hc0 (g2 c0 hc0)
      · obtain ⟨h1, h2⟩ := hok.none hb
        exact ⟨by simp [un, unRow, h1], h2⟩
      · obtain ⟨e1, cur, e2, e3, e4, e5, e6⟩ := hok.some b hb
        refine ⟨e1, cur, e2, e3, by simpa [un, unRow] using e4, e5, fun i' x hx q c hc => ?_⟩
        simp only [un, unRow, List.getElem?_map, Option.map_eq_some_iff] at hx
        obtain ⟨y, hy, rfl⟩ := hx
        simp only [List.getElem?_map, Option.map_eq_some_iff] at hc
        obtain ⟨c0, hc0, rfl⟩ := hc
        obtain ⟨u', f1, f2⟩ := e6 i' y hy q c0 hc0
        exact ⟨u', f1, hun1 _ _ f2⟩
    · have hok := hr.rows _ o ho2
      refine ⟨hok.pos, hok.lens, hok.none, fun b hb => ?_, fun b hb => ⟨(hB _ o h2 ho2 b (.inr hb)).2.1, Nat.lt_of_lt_of_le (hok.mo b hb).2.1 he.size, (hok.mo b hb).2.2⟩,
        hok.deep.keep rfl (fun _ h => h) rfl (fun b hb => (hB _ o h2 ho2 b hb).1) (fun i x j e s ys hx hc => ⟨x, hx, hc⟩)⟩
      obtain ⟨e1, cur, e2, e3, e4, e5, e6⟩ := hok.some b hb
      obtain ⟨g1, g2, _⟩ := hB _ o h2 ho2 b (.inl hb)
      refine ⟨g2, cur, by rw [g1]; exact e2, e3, e4, e5, fun i' x hx j c hc => ?_⟩
      obtain ⟨u', f1, f2⟩ := e6 i' x hx j c hc
      exact ⟨u', f1, hmono _ _ f2⟩
  · rcases hcase i oi hi with ⟨p, o', hp, rfl, rfl⟩ | ⟨h1, h2, hi1⟩ <;> rcases hcase j oj hj with ⟨p2, o2', hp2, rfl, rfl⟩ | ⟨h3, h4, hj1⟩
    · have := hs'.inj p p2 o' o2' b hp hp2 hbi hbj
      rw [this]
    · exact absurd hbi ((hB _ oj h4 hj1 b hbj).2.2 o' (List.mem_of_getElem? hp))
    · exact absurd hbj ((hB _ oi h2 hi1 b hbi).2.2 o2' (List.mem_of_getElem? hp2))
    · exact hr.inj i j oi oj b hi1 hj1 hbi hbj
  · have h3 : ∀ o ∈ osA, ¬ o.owns b := fun o ho => by
      obtain ⟨j, hj⟩ := List.mem_iff_getElem?.1 ho
      obtain ⟨id, o0, hid, ho0, rfl⟩ := hget j o hj
      exact h2 o0 (List.mem_of_getElem? ho0)
    obtain ⟨g1, g2, g3⟩ := he.other b hb h1 h3
    refine ⟨g1, g2, fun o ho => ?_⟩
    obtain ⟨i, hi⟩ := List.mem_iff_getElem?.1 ho
    rcases hcase i o hi with ⟨p, o', hp, rfl, rfl⟩ | ⟨_, _, ho2⟩
    · exact g3 o' (List.mem_of_getElem? hp)
    · exact h2 o (List.mem_of_getElem? ho2)

/-- Rows after the call, printed. -/
inductive UN (sel : List Nat) (N : Nat) : List Row → List Row → Prop
  | nil : UN sel N [] []
  | deep {g size : Nat} {el : TypeId} {xs : List (List AV)} {r r' : List Row} (hp : pureRow' xs) (hl : UN sel N r r') : UN sel N (⟨g, el, size, xs⟩ :: r) (⟨g, el, size, xs⟩ :: r')
  | raw {g size : Nat} {el : TypeId} {cs cs' : List AV} {r r' : List Row} (hc : cs.map (unr1 sel N) = cs') (hp : cs'.all AV.leaf = true) (hl : UN sel N r r') : UN sel N (⟨g, el, size, [cs]⟩ :: r) (⟨g, el, size, [cs']⟩ :: r')

theorem UN.pure {sel : List Nat} {N : Nat} {g size : Nat} {el : TypeId} {xs : List (List AV)} {r r' : List Row} (hp : pureRow xs) (hl : UN sel N r r') : UN sel N (⟨g, el, size, xs⟩ :: r) (⟨g, el, size, xs⟩ :: r') := .deep hp.any hl

theorem unr1_simple' {sel : List Nat} {N : Nat} {c : AV} (h : simple' c = true) : unr1 sel N c = c := by cases c <;> simp [simple', simple, unr1] at h ⊢
theorem unr1_simple {sel : List Nat} {N : Nat} {c : AV} (h : simple c = true) : unr1 sel N c = c := by cases c <;> simp [simple, unr1] at h ⊢

theorem UN.leaf {sel : List Nat} {N : Nat} : ∀ {l l' : List Row}, UN sel N l l' → ∀ row ∈ l, ∀ x ∈ row.xs, ∀ c ∈ x, c.kept = true → (unr1 sel N c).kept = true
  | _, _, .nil, _, h => by cases h
  | _, _, .deep hp hl, row, hm => by
    rcases List.mem_cons.1 hm with rfl | hm
    · intro x hx c hc h; rw [unr1_simple' (hp x hx c hc)]; exact h
    · exact UN.leaf hl row hm
  | _, _, .raw hc hp hl, row, hm => by
    rcases List.mem_cons.1 hm with rfl | hm
    · intro x hx c hcx _
      simp only [List.mem_singleton] at hx
      subst hx
      exact AV.kept_leaf (List.all_eq_true.1 hp _ (by rw [← hc]; exact List.mem_map.2 ⟨c, hcx, rfl⟩))
    · exact UN.leaf hl row hm
theorem UN.spec {sel : List Nat} {N : Nat} : ∀ {l l' : List Row}, UN sel N l l' → l.map (unRow sel N) = l'
  | _, _, .nil => rfl
  | _, _, .deep hp hl => by
    simp only [List.map_cons, UN.spec hl]
    congr 1
    simp only [unRow]
    congr 1
    refine (List.map_congr_left (g := id) fun x hx => ?_).trans (List.map_id _)
    refine (List.map_congr_left (g := id) fun c hc => ?_).trans (List.map_id _)
    exact unr1_simple' (hp x hx c hc)
  | _, _, .raw hc _ hl => by simp only [List.map_cons, UN.spec hl, unRow, List.map_nil, hc]

theorem callThen_leaf {f : FuncId} {args : List AV} {d : Option Tmp} {K : St → Prop} (h : (∀ row ∈ s.st, ∀ x ∈ row.xs, ∀ c ∈ x, c.kept = true) → callThen P k s f args d K) : callThen P k s f args d K :=
  fun F os a w vs hr hl => h (rel_leaf hr) F os a w vs hr hl

section
variable {ops : Array Oper} {Q : Exit → St → Prop} {ds : List (Option Tmp)} {r : List Oper} {n : Nat} {e : Nat → AV} {st st' : List Row} {ty : TypeId} {ps : String} {ed : Array Edge} {d : Option Tmp} {v v' : AV} {gd : Option (Nat × Bool)}
variable {f : FuncId} {ars : Array Operand} {ts : Array TypeId} {args args' : List AV} {rowsP rows0 rows1 rows1' rows2 rows2' : List Row}
theorem ao_callsL (sel : List Nat) (hg : GO ds gd e) (hb : hasBody P f = true) (hc : ACalls P f args' rows0 fun r st => r = v ∧ st = rows1 ++ rows2) (ha : ars.toList.map (St.ev ⟨n, e, st⟩) ++ [] = args) (hnd : sel.Nodup) (hlt : sel.all (· < st.length) = true)
    (hp : pickRows st sel = rowsP) (hs : SR sel rowsP rows0) (hf : args.map (ren sel) = args') (hlen : rows1.length = sel.length) (h1 : UN sel st.length rows1 rows1') (h2 : UN sel st.length rows2 rows2') (hv : unr sel st.length v = v') (hst' : putRows sel rows1' 0 st ++ rows2' = st')
    (hk : LenKept rows0 rows1 → AO P k ops Q (ds ++ [d]) r (St.put ⟨n, e, st'⟩ d v')) : AO P k ops Q ds (⟨d, .call ⟨.value (.func f), ars, ts⟩, ty, ps, ed, gd⟩ :: r) ⟨n, e, st⟩ := by
  subst hst'; subst ha; subst hv; subst hp
  refine ao_a hg ?_
  rw [st_call_func]
  refine ⟨hb, callThen_leaf fun hle => ?_⟩
  obtain ⟨e1, e2⟩ := hs.spec (st0 := st) hle (fun row hrow => by
    obtain ⟨i, _, hi⟩ := List.mem_filterMap.1 hrow
    exact List.mem_of_getElem? hi)
  refine callThen_sel sel hc hnd (fun i hi => by simpa using List.all_eq_true.1 hlt i hi) e1 e2 hf hlen (fun row hrow => by
    rcases List.mem_append.1 hrow with h | h
    · exact h1.leaf row h
    · exact h2.leaf row h) fun hln => ?_
  simp only [h1.spec, h2.spec]
  exact hk hln
theorem ao_calls (sel : List Nat) (hg : GO ds gd e) (hb : hasBody P f = true) (hc : ACalls P f args' rows0 fun r st => r = v ∧ st = rows1 ++ rows2) (ha : ars.toList.map (St.ev ⟨n, e, st⟩) ++ [] = args) (hnd : sel.Nodup) (hlt : sel.all (· < st.length) = true)
    (hp : pickRows st sel = rowsP) (hs : SR sel rowsP rows0) (hf : args.map (ren sel) = args') (hlen : rows1.length = sel.length) (h1 : UN sel st.length rows1 rows1') (h2 : UN sel st.length rows2 rows2') (hv : unr sel st.length v = v') (hst' : putRows sel rows1' 0 st ++ rows2' = st')
    (hk : AO P k ops Q (ds ++ [d]) r (St.put ⟨n, e, st'⟩ d v')) : AO P k ops Q ds (⟨d, .call ⟨.value (.func f), ars, ts⟩, ty, ps, ed, gd⟩ :: r) ⟨n, e, st⟩ :=
  ao_callsL sel hg hb hc ha hnd hlt hp hs hf hlen h1 h2 hv hst' fun _ => hk
end
/-- Rows in another order, those that persist first and as they are: printed. -/
theorem Wk.permk {k n : Nat} {e : Nat → AV} {st st1 st' : List Row} {L : List (Nat × AV)} (sel : List Nat) (hk : sel.take k = List.range k) (hks : SR sel (st.take k) (st.take k)) (hnd : sel.Nodup) (hlt : sel.all (· < st.length) = true) (hp : pickRows st sel = st1) (hs : SR sel st1 st') (h : ME (fun t => ren sel (e t)) L) :
    Wk k ⟨n, e, st⟩ ⟨n, envL L, st'⟩ := fun F os a w hr => by
  have hle := rel_leaf hr
  obtain ⟨h1, h2⟩ := hs.spec (st0 := st) hle (fun row hrow => by
    rw [← hp] at hrow
    obtain ⟨i, _, hi⟩ := List.mem_filterMap.1 hrow
    exact List.mem_of_getElem? hi)
  obtain ⟨g1, _⟩ := hks.spec (st0 := st) hle (fun row hrow => List.mem_of_mem_take hrow)
  refine Wk.selR sel hk (fun i hi row hrow => ?_) hnd hlt (by rw [hp]; exact h1) h2 h F os a w hr
  have a1 : (st.take k)[i]? = some row := by rw [List.getElem?_take]; simp [hi, hrow]
  have a2 := congrArg (·[i]?) g1
  simp only [List.getElem?_map, a1, Option.map_some, Option.some.injEq] at a2
  exact a2

/-- A contract's end, weakened: rows of the result become values. -/
theorem ACalls.wk {P : Program} {f : FuncId} {args : List AV} {rows st0 st1 : List Row} {r0 r1 : AV} (h : ACalls P f args rows fun r st => r = r0 ∧ st = st0) (hw : Wk rows.length ⟨1, envL [(0, r0)], st0⟩ ⟨1, envL [(0, r1)], st1⟩) :
    ACalls P f args rows fun r st => r = r1 ∧ st = st1 := by
  intro F os w vs hs hl
  refine (h F os w vs hs hl).mono ?_
  rintro e w' ⟨v, r, st', F', os', rfl, ⟨rfl, rfl⟩, h1, h2, h3⟩
  have hrel : Rel F' os' ⟨1, envL [(0, r)], st'⟩ { tmps := #[v], defers := [] } w' := by
    refine ⟨h1.st, fun t => ?_, rfl, h1.rows, h1.inj, h1.old, rfl⟩
    simp only [envL]
    split
    · rename_i ht; subst ht; exact h2
    · simp [Rep]
  obtain ⟨F2, os2, h4, h5⟩ := hw F' os' _ w' hrel
  refine ⟨v, r1, st1, F2, os2, rfl, ⟨rfl, rfl⟩, ⟨h4.st, h4.rows, h4.inj, h4.old⟩, ?_, h3.trans h5⟩
  have := h4.env 0
  simpa [envL] using this

theorem le.frz1 {α : Type} {id g m : Nat} {l : List α} {enc : α → List AV} (h : m = l.length) : le (Abs.frz1 id g (l.map enc) (.own id g m)) (.sl (l.map enc)) := le.of (frz1_full h)

/-- The same where what comes back becomes a value at once. -/
theorem callThen_borrowZ {P : Program} {s : St} {f : FuncId} {args : List AV} {d : Option Tmp} {K : St → Prop} {k : Nat} {v0 v : AV} {st0 : List Row} (h : ACalls P f (args.map (borrow1 s.st)) [] fun r st => r = v0 ∧ st = st0) (hf : (args.map (borrow1 s.st)).all flat = true)
    (hpure : ∀ id g n, lentIn args id g n → ∀ row, s.st[id]? = some row → pureRow' row.xs) (hsc : scal v0 = true) (hrows : ∀ row ∈ st0, ∀ x ∈ row.xs, ∀ c ∈ x, scal1 c = true)
    (hw : Wk 0 ⟨1, envL [(0, v0)], st0⟩ ⟨1, envL [(0, v)], []⟩) (hv : flat v = true) (hK : K (s.put d v)) : callThen P k s f args d K := by
  intro F os a w vs hr hl
  refine (borrow_core (k := k) h hf hpure hr hl).mono ?_
  rintro e w' ⟨u, r, st', F', os1, rfl, ⟨rfl, rfl⟩, hr', hs, hru, hFF, he, hdis, hoth⟩
  have hold' : ∀ b, F b → b < w'.heap.size := hr'.old
  have hrel : Rel F os1 ⟨1, envL [(0, r)], st'⟩ { tmps := #[u], defers := [] } w' := by
    refine ⟨hs.st, fun t => ?_, rfl, fun i o ho => ?_, hs.inj, hold', rfl⟩
    · simp only [envL]
      split
      · rename_i ht; subst ht; exact rep_scal hsc hru
      · simp [Rep]
    · have hok := hs.rows i o ho
      have hm : o.row ∈ st' := by rw [← hs.st]; exact List.mem_map.2 ⟨o, List.mem_of_getElem? ho, rfl⟩
      refine ⟨hok.pos, hok.lens, hok.none, fun b hb => ?_, fun b hb => ⟨fun h => (hok.mo b hb).1 (hFF b h), (hok.mo b hb).2⟩, hok.deep⟩
      obtain ⟨e1, cur, e2, e3, e4, e5, e6⟩ := hok.some b hb
      exact ⟨fun h => e1 (hFF b h), cur, e2, e3, e4, e5, fun i' x hx j c hc => by
        obtain ⟨u', f1, f2⟩ := e6 i' x hx j c hc
        exact ⟨u', f1, rep_scal1 (hrows _ hm x (List.mem_of_getElem? hx) c (List.mem_of_getElem? hc)) f2⟩⟩
  obtain ⟨F2, os2, h6, h7⟩ := hw F os1 _ w' hrel
  have hos2 : os2 = [] := by have := h6.st; simpa using this
  subst hos2
  have hF2 : ∀ b, F b → F2 b := h7.fsub
  have hnF2 : ∀ b, b < w'.heap.size → ¬ F b → (∀ o1 : Own, o1 ∈ os1 → ¬ o1.owns b) → ¬ F2 b := fun b hb e1 e2 => (h7.other b hb e1 e2).2.1
  have hmono : ∀ x v, Rep F w' os x v → Rep F2 w' os x v := fun x v h => rep_mono hF2 (fun _ _ => rfl) os os (HosLe.refl os) x v h
  have hr2 : Rel F2 os s a w' := by
    refine ⟨hr'.st, fun t => hmono _ _ (hr'.env t), hr'.size, fun i o ho => ?_, hr'.inj, h6.old, hr'.defers⟩
    have hok := hr'.rows i o ho
    refine ⟨hok.pos, hok.lens, hok.none, fun b hb => ?_, fun b hb => ⟨hnF2 b (hok.mo b hb).2.1 (hok.mo b hb).1 (hdis i o ho b (.inr hb)), (hok.mo b hb).2⟩, hok.deep⟩
    obtain ⟨e1, cur, e2, e3, e4, e5, e6⟩ := hok.some b hb
    exact ⟨hnF2 b (Array.getElem?_eq_some_iff.1 e2).1 e1 (hdis i o ho b (.inl hb)), cur, e2, e3, e4, e5, fun i' x hx j c hc => by obtain ⟨u, f1, f2⟩ := e6 i' x hx j c hc; exact ⟨u, f1, hmono _ _ f2⟩⟩
  refine ⟨u, v, s.st, F2, os, rfl, hK, hr2, rep_flat hv os (by have := h6.env 0; simpa [envL] using this), ?_⟩
  exact ⟨he.sys, he.tape, he.output, he.size, hF2, he.fsame, fun b hb e1 e2 => ⟨(he.other b hb e1 e2).1, hnF2 b (Nat.lt_of_lt_of_le hb he.size) e1 (hoth b hb e1 e2), e2⟩, he.pers⟩

/-! ### Memory taken in a head that draws its order: what is taken is a value at once -/

theorem Rel.bare {F : Nat → Prop} {os : List Own} {s : St} {a : Act} {w : World} (hr : Rel F os s a w) : Rel F [] ⟨s.n, fun _ => .junk, []⟩ a w :=
  ⟨rfl, fun _ => by simp [Rep], hr.size, by simp, by simp, hr.old, hr.defers⟩

theorem Effects.quiet {P : Program} {F : Nat → Prop} {os : List Own} {s : St} {a : Act} {w : World} {k : Nat} {sem : Sem Value} {v0 v : AV} {st0 : List Row} (hr : Rel F os s a w)
    (he : Effects P 0 F [] ⟨s.n, fun _ => .junk, []⟩ a w sem fun x st => x = v0 ∧ st = st0) (hw : Wk 0 ⟨1, envL [(0, v0)], st0⟩ ⟨1, envL [(0, v)], []⟩) (hv : flat v = true) :
    ∃ u w' F', sem.run P w = .ok u w' ∧ Rel F' os s a w' ∧ Rep F' w' os v u ∧ Ext F os w F' os w' k := by
  obtain ⟨x, st', u, w', os1, ⟨rfl, rfl⟩, h2, h3, h4, h5⟩ := he
  have hrel : Rel F os1 ⟨1, envL [(0, x)], st'⟩ { tmps := #[u], defers := [] } w' := by
    refine ⟨h3.st, fun t => ?_, rfl, h3.rows, h3.inj, h3.old, rfl⟩
    simp only [envL]
    split
    · rename_i ht; subst ht; exact h4
    · simp [Rep]
  obtain ⟨F2, os2, h6, h7⟩ := hw F os1 _ w' hrel
  have hos2 : os2 = [] := by have := h6.st; simpa using this
  subst hos2
  obtain ⟨g1, g2, _⟩ := hr.after (k := k) (h5.trans h7) h6.old
  exact ⟨u, w', F2, h2, g1, rep_flat hv os (by have := h6.env 0; simpa [envL] using this), g2⟩

section
variable {P : Program} {ds : List (Option Tmp)} {r : List Oper} {n : Nat} {e : Nat → AV} {st : List Row} {ty : TypeId} {ps : String} {ed : Array Edge} {t : Tmp} {gd : Option (Nat × Bool)} {KS : St → Prop}
variable {α : Type} {l : List α} {enc : α → List AV} {el T : TypeId} {size bytes : Nat} {zz cs : List AV}

theorem Wk.row0 (hp : pureRow (l.map enc)) : Wk 0 ⟨1, envL [(0, .own 0 0 l.length)], [⟨0, el, size, l.map enc⟩]⟩ ⟨1, envL [(0, .sl (l.map enc))], []⟩ :=
  (Wk.frz (n := 1) (e := envL [(0, .own 0 0 l.length)]) (st := [⟨0, el, size, l.map enc⟩]) (L := [(0, .sl (l.map enc))]) (st' := [⟨1, el, size, []⟩]) (id := 0) rfl (Nat.zero_le _) hp ⟨.frz rfl, trivial⟩ rfl).trans
    (Wk.sel (L := [(0, .sl (l.map enc))]) (st' := []) [] rfl (by decide) rfl rfl trivial ⟨.rfl, trivial⟩)

theorem d_bs {len : Nat} {parts : Array (Nat × Operand)} {pv : List (Nat × AV)} (hg : GO ds gd e) (he : einfo P T = some ⟨el, size, bytes, zz⟩) (hle : len * size ≤ 16777216) (hp : (parts.toList.map fun p => (p.1, St.ev ⟨n, e, st⟩ p.2)) = pv)
    (hpf : (pv.all fun p => flat p.2) = true) (hc : afill (fun i => some (i * size, size)) ((List.replicate len zz).flatten) pv = some cs) (hck : chunk size len cs = l.map enc) (hln : len = l.length) (hpu : pureRow (l.map enc))
    (hk : dops P (ds ++ [some t]) r KS ⟨n, upd e t (.sl (l.map enc)), st⟩) : dops P ds (⟨some t, .buildSlice T len parts, ty, ps, ed, gd⟩ :: r) KS ⟨n, e, st⟩ := by
  refine d_l hg rfl (fun s0 e1 e2 hd k F os a w hr next Q hn => ?_) hk
  have hpv : (parts.toList.map fun p => (p.1, s0.ev p.2)) = pv := by
    rw [← hp]
    refine List.map_congr_left fun p hp' => ?_
    rw [e2 p.2 (by simp only [Op.operands, List.mem_toArray, List.mem_map]; exact ⟨p, by simpa using hp', rfl⟩)]
  have h9 : Effects P 0 F [] ⟨s0.n, fun _ => .junk, []⟩ a w (Instr.buildSlice T len (parts.map fun (i, x) => (i, a.eval x))) (fun x st => x = .own 0 0 l.length ∧ st = [⟨0, el, size, l.map enc⟩]) := by
    refine aBuildSlice_ok (parts := pv) hr.bare (optK_intro _ he ⟨hle, optK_intro _ hc (by subst hln; rw [hck]; exact ⟨rfl, rfl⟩)⟩) (by rw [← hpv]; simp) fun i p up hp hup => ?_
    have hfl : flat p.2 = true := List.all_eq_true.1 hpf p (List.mem_of_getElem? hp)
    rw [← hpv] at hp
    simp only [List.getElem?_map, Option.map_eq_some_iff, Array.toList_map] at hp hup
    obtain ⟨q, hq, rfl⟩ := hp
    obtain ⟨q', hq', rfl⟩ := hup
    rw [hq] at hq'; cases hq'
    exact rep_flat hfl [] (hr.ev _)
  obtain ⟨u, w', F', g1, g2, g3, g4⟩ := Effects.quiet (k := k) hr h9 (Wk.row0 hpu) rfl
  unfold Oper.wp
  simp only [execOp, Sem.run_bind, g1, Result.andThen_ok, Sem.run_pure, Oper.upon]
  exact hn _ _ (putStep (st' := s0.st) hd rfl g2 g3 g4)
theorem d_callbz {f : FuncId} {ars : Array Operand} {ts : Array TypeId} {args as : List AV} {rows : List Row} {v0 v : AV} (hg : GO ds gd e) (hb : hasBody P f = true) (hc : ACalls P f args [] fun r st => r = v0 ∧ st = rows) (ha : ars.toList.map (St.ev ⟨n, e, st⟩) ++ [] = as) (hba : BA st as args) (hsc : scal v0 = true) (hp : SRows rows)
    (hw : Wk 0 ⟨1, envL [(0, v0)], rows⟩ ⟨1, envL [(0, v)], []⟩) (hv : flat v = true)
    (hk : dops P (ds ++ [some t]) r KS ⟨n, upd e t v, st⟩) : dops P ds (⟨some t, .call ⟨.value (.func f), ars, ts⟩, ty, ps, ed, gd⟩ :: r) KS ⟨n, e, st⟩ := by
  subst ha
  obtain ⟨h1, h2, h3⟩ := hba.spec
  refine d_l hg rfl (fun s0 e1 e2 hd k F os a w hr next Q hn => ?_) hk
  refine aloud_ok (k := k) (K := (· = s0.put (some t) v)) hr hd ?_ hn
  show hasBody P f = true ∧ callThen P k s0 f (ars.toList.map s0.ev ++ []) (some t) _
  rw [ev_args e2]
  refine ⟨hb, ?_⟩
  subst e1
  refine callThen_borrowZ ?_ ?_ h3 hsc (fun row hrow => (hp.get row hrow).2) hw hv rfl
  · show ACalls P f (List.map (borrow1 s0.st) _) [] _
    rw [h1]; exact hc
  · show (List.map (borrow1 s0.st) _).all flat = true
    rw [h1]; exact h2
end

end Go.Abs

/- Regions that draw their order, order by order: for those in which memory is taken before the head is through. -/
namespace Go.Abs
open Go

theorem Oper.wp_Q {P : Program} {o : Oper} {a : Act} {w : World} {next : Act → World → Prop} {Q Q' : Exit → Act → World → Prop} (hp : ∀ c a w, Q (.panic c) a w → Q' (.panic c) a w) (ho : LetsOut Q → LetsOut Q') (h : o.wp P a w next Q) : o.wp P a w next Q' := by
  unfold Oper.wp at *
  generalize (execOp a.eval o).run P w = r at *
  cases r with
  | ok n w' =>
    cases n <;> simp only [Oper.upon] at h ⊢
    case value => exact h
    case skip => exact h
    case defer => exact h
    case enter f args =>
      refine Calls.mono h fun e w'' he => ?_
      cases e with
      | returned u => exact he
      | panicked c => exact hp _ _ _ he
      | outgrown => exact ho he
    case row => exact h
  | halt x w' =>
    cases x <;> simp only [Oper.upon] at h ⊢
    case panic u => exact hp _ _ _ h

section
variable {P : Program} {k : Nat} {ops : Array Oper} {Q : Exit → St → Prop} {N f i : Nat} {listed : Array Bool} {s s' : St} {o : Oper}

def PostN (k : Nat) (Q : Exit → St → Prop) (F : Nat → Prop) (os : List Own) (w : World) : Exit → Act → World → Prop := Post k (fun e s' => e = .normal ∧ Q e s') F os w

def AX (P : Program) (k : Nat) (ops : Array Oper) (Q : Exit → St → Prop) (N f : Nat) (listed : Array Bool) (s : St) : Prop :=
  s.n = N ∧ ∀ F0 os0 w0 F os a w, Rel F os s a w → Ext F0 os0 w0 F os w k → wpAny P .any ops (PostN k Q F0 os0 w0) f listed a w

def AXs (P : Program) (k : Nat) (ops : Array Oper) (Q : Exit → St → Prop) (N f : Nat) (listed : Array Bool) (s : St) (i : Nat) : Prop :=
  ∀ F0 os0 w0 F os a w, Rel F os s a w → Ext F0 os0 w0 F os w k → wpOp P ops (PostN k Q F0 os0 w0) i (wpAny P .any ops (PostN k Q F0 os0 w0) f (listed.setIfInBounds i true)) a w

def AXL (P : Program) (k : Nat) (ops : Array Oper) (Q : Exit → St → Prop) (N f : Nat) (listed : Array Bool) (s : St) : List Nat → Prop
  | [] => True
  | i :: r => AXs P k ops Q N f listed s i ∧ AXL P k ops Q N f listed s r

theorem AXL.get : ∀ {l : List Nat}, AXL P k ops Q N f listed s l → ∀ i ∈ l, AXs P k ops Q N f listed s i
  | j :: r, h, i, hi => by
    rcases List.mem_cons.1 hi with rfl | hi
    · exact h.1
    · exact AXL.get h.2 i hi

theorem AX.all (rs : List Nat) (hn : s.n = N) (hr : Region.ready .any ops listed = rs) (hne : rs ≠ []) (h : AXL P k ops Q N f listed s rs) : AX P k ops Q N (f + 1) listed s :=
  ⟨hn, fun F0 os0 w0 F os a w hrel he => wpAny_all hr hne fun i hi => h.get i hi F0 os0 w0 F os a w hrel he⟩

theorem AX.done (hn : s.n = N) (hr : Region.ready .any ops listed = []) (h : Q .normal s) : AX P k ops Q N f listed s :=
  ⟨hn, fun _ _ _ F os a w hrel he => wpAny_done hr ⟨s, F, os, ⟨rfl, h⟩, hrel, he⟩ f⟩

theorem AX.weaken (hw : Wk k s s') (h : AX P k ops Q N f listed s') (hn : s.n = N) : AX P k ops Q N f listed s :=
  ⟨hn, fun F0 os0 w0 F os a w hrel he => by
    obtain ⟨F1, os1, h1, e1⟩ := hw F os a w hrel
    exact h.2 F0 os0 w0 F1 os1 a w h1 (he.trans e1)⟩

def guardLt (o : Oper) (i : Nat) : Bool := match o.guard with
  | none => true
  | some (j, _) => decide (j < i + 1)

theorem AXs.of (ho : ops[i]? = some o) (hg : guardLt o i = true) (hd : (ops.toList.all fun o => dstOK s.n o.dst) = true)
    (h : AO P k (ops.extract 0 (i + 1)) (fun e s' => e = .normal ∧ AX P k ops Q N f (listed.setIfInBounds i true) s') ((ops.toList.take i).map (·.dst)) [o] s) : AXs P k ops Q N f listed s i := by
  intro F0 os0 w0 F os a w hrel he
  have hi : i < ops.size := (Array.getElem?_eq_some_iff.1 ho).1
  have hex : ∀ j, (ops.extract 0 (i + 1))[j]? = if j < i + 1 then ops[j]? else none := fun j => by
    rw [Array.getElem?_extract]
    split <;> split <;> simp_all <;> omega
  have h1 := h (fun j => by
      have hlen : ((ops.toList.take i).map (·.dst)).length = i := by simp; omega
      rw [hlen, hex]
      cases j with
      | zero => simp [ho]
      | succ j => rw [if_neg (by omega)]; simp) (fun j d hj => by
      simp only [List.getElem?_map, List.getElem?_take] at hj
      split at hj
      · rw [hex, if_pos (by omega)]; simpa using hj
      · cases hj) (fun o' ho' => by
      obtain ⟨j, hj⟩ := List.mem_iff_getElem?.1 ho'
      rw [Array.getElem?_toList, hex] at hj
      split at hj
      · exact List.all_eq_true.1 hd o' (List.mem_of_getElem? (i := j) (by simpa using hj))
      · cases hj) F os a w hrel (fun e a' w' => e = .normal ∧ wpAny P .any ops (PostN k Q F0 os0 w0) f (listed.setIfInBounds i true) a' w') (by
      rintro e a' w' ⟨s', F', os', ⟨rfl, hax⟩, hr', he'⟩
      exact ⟨rfl, hax.2 F0 os0 w0 F' os' a' w' hr' (he.trans he')⟩)
  have hy : Region.wanted o (yielded (ops.extract 0 (i + 1)) a.tmps) = Region.wanted o (yielded ops a.tmps) := by
    unfold Region.wanted
    unfold guardLt at hg
    cases hgd : o.guard with
    | none => rfl
    | some p =>
      obtain ⟨j, want⟩ := p
      rw [hgd] at hg
      simp only [decide_eq_true_eq] at hg
      simp only [yielded, hex, if_pos hg]
  unfold wpList at h1
  unfold wpOp
  simp only [ho]
  rw [hy] at h1
  split at h1
  · rename_i hw
    rw [if_pos hw]
    rcases h1 with h1 | ⟨_, a1, w1, h1, _⟩
    · refine .inl (Oper.wp_mono (fun a' w' h' => ?_) (Oper.wp_Q (fun c a' w' h' => ?_) (fun h' => ?_) h1))
      · exact h'.2
      · exact nomatch h'.1
      · obtain ⟨_, _, h2, _⟩ := h'; exact nomatch h2
    · exact nomatch h1
  · rename_i hw
    rw [if_neg hw]
    exact h1.2

/-- What an operation yields whatever the world. -/
def Hoist (P : Program) (s : St) (o : Oper) (v : AV) : Prop :=
  o.guard = none ∧ ∀ F os a w, Rel F os s a w → ∃ u, (∀ w', (execOp a.eval o).run P w' = .ok (.value u) w') ∧ Rep F w os v u

theorem AX.hoist (i : Nat) {v : AV} (hn : s.n = N) (ho : ops[i]? = some o) (hs : Region.noSelect ops = true) (hf : Region.free .any ops listed i = true) (hr : (Region.ready .any ops listed).contains i = true) (hd : dstOK s.n o.dst = true) (hh : Hoist P s o v)
    (h : AX P k ops Q N f (listed.setIfInBounds i true) (s.put o.dst v)) : AX P k ops Q N (f + 1) listed s :=
  ⟨hn, fun F0 os0 w0 F os a w hrel he => by
    obtain ⟨hg, hh⟩ := hh
    obtain ⟨u, hu, hv⟩ := hh F os a w hrel
    refine wpAny_take ho hs hf hr (fun c a w ⟨_, _, _, hp, _⟩ => nomatch hp.1) (.inl ⟨by unfold Region.wanted; rw [hg], hu⟩) ?_
    exact h.2 F0 os0 w0 F os _ w (hrel.put hd hv) he⟩

theorem AW.drawX {id : Nat} (hm : P.follows .mixedOrders = true) (h : AX P k ops Q s.n ops.size (Array.replicate ops.size false) s) : AW P k (.region id ops true) Q s := by
  refine AW.mono (Q := fun e s' => e = .normal ∧ Q e s') ?_ fun e s' hq => hq.2
  intro F os a w hr
  obtain ⟨hr1, he1⟩ := hr.drew (k := k)
  refine wp_region_any hm ?_
  exact h.2 F os w F os a w.drew hr1 he1
end

section
variable {P : Program} {n : Nat} {e : Nat → AV} {st : List Row} {t : Tmp} {ty : TypeId} {ps : String} {ed : Array Edge} {x : Operand} {v : AV}
theorem hoist_mv (h : St.ev ⟨n, e, st⟩ x = v) : Hoist P ⟨n, e, st⟩ ⟨some t, .move x, ty, ps, ed, none⟩ v :=
  ⟨rfl, fun _ _ a _ hr => ⟨a.eval x, fun _ => rfl, h ▸ hr.ev x⟩⟩
theorem hoist_as (h : St.ev ⟨n, e, st⟩ x = v) : Hoist P ⟨n, e, st⟩ ⟨some t, .assign x, ty, ps, ed, none⟩ v :=
  ⟨rfl, fun _ _ a _ hr => ⟨a.eval x, fun _ => rfl, h ▸ hr.ev x⟩⟩
theorem hoist_nck {id g i off el size : Nat} {xs : List (List AV)} (h : St.ev ⟨n, e, st⟩ x = .ptr id g i off) (hrow : st[id]? = some ⟨g, el, size, xs⟩) : Hoist P ⟨n, e, st⟩ ⟨some t, .nilCheck x, ty, ps, ed, none⟩ (.ptr id g i off) :=
  ⟨rfl, fun F os a w hr => by
    have h1 := hr.ev x
    rw [h] at h1
    refine ⟨a.eval x, fun w' => ?_, h1⟩
    simp only [Rep] at h1
    obtain ⟨o, ho, _, _, h2⟩ := h1
    have hst : os.map Own.row = st := hr.st
    have hg : o.row.gen = g := by
      rw [← hst, List.getElem?_map, ho] at hrow
      simp only [Option.map_some, Option.some.injEq] at hrow
      rw [hrow]
    obtain ⟨_, _, b, _, e2⟩ := h2 hg
    simp [execOp, e2]⟩
end
theorem Wk.steq {k n : Nat} {e : Nat → AV} {st st' : List Row} (h : st = st') : Wk k ⟨n, e, st⟩ ⟨n, e, st'⟩ := h ▸ Wk.refl _ _
/-! Calls through a value, that are handed rows. -/
section
variable {P : Program} {k : Nat}
variable {ops : Array Oper} {Q : Exit → St → Prop} {ds : List (Option Tmp)} {r : List Oper} {n : Nat} {e : Nat → AV} {st st' : List Row} {ty : TypeId} {ps : String} {ed : Array Edge} {d : Option Tmp} {v v' : AV} {gd : Option (Nat × Bool)}
variable {f : FuncId} {ars : Array Operand} {ts : Array TypeId} {args args' : List AV} {rowsP rows0 rows1 rows1' rows2 rows2' : List Row}
theorem ao_callst {tf : Tmp} {caps : List AV} (sel : List Nat) (hg : GO ds gd e) (hfn : e tf = .fn f caps) (hb : hasBody P f = true) (hc : ACalls P f args' rows0 fun r st => r = v ∧ st = rows1 ++ rows2) (ha : ars.toList.map (St.ev ⟨n, e, st⟩) ++ caps = args) (hnd : sel.Nodup) (hlt : sel.all (· < st.length) = true)
    (hp : pickRows st sel = rowsP) (hs : SR sel rowsP rows0) (hf : args.map (ren sel) = args') (hlen : rows1.length = sel.length) (h1 : UN sel st.length rows1 rows1') (h2 : UN sel st.length rows2 rows2') (hv : unr sel st.length v = v') (hst' : putRows sel rows1' 0 st ++ rows2' = st')
    (hk : AO P k ops Q (ds ++ [d]) r (St.put ⟨n, e, st'⟩ d v')) : AO P k ops Q ds (⟨d, .call ⟨.value (.tmp tf), ars, ts⟩, ty, ps, ed, gd⟩ :: r) ⟨n, e, st⟩ := by
  subst hst'; subst ha; subst hv; subst hp
  refine ao_a hg ?_
  rw [st_call_tmp, show (St.mk n e st).env tf = e tf from rfl, hfn]
  refine ⟨hb, callThen_leaf fun hle => ?_⟩
  obtain ⟨e1, e2⟩ := hs.spec (st0 := st) hle (fun row hrow => by
    obtain ⟨i, _, hi⟩ := List.mem_filterMap.1 hrow
    exact List.mem_of_getElem? hi)
  refine callThen_sel sel hc hnd (fun i hi => by simpa using List.all_eq_true.1 hlt i hi) e1 e2 hf hlen (fun row hrow => by
    rcases List.mem_append.1 hrow with h | h
    · exact h1.leaf row h
    · exact h2.leaf row h) fun _ => ?_
  simp only [h1.spec, h2.spec]
  exact hk
end
/-! Elements of data that hold themselves. -/
theorem aq_ixsE {P : Program} {s : St} {x y : Operand} {t : TypeId} {kk : IntKind} {α : Type} {l : List α} {enc : α → List AV} {n : Int} {u : α} {el size bytes : Nat} {zz cs : List AV} (he : einfo P t = some ⟨el, size, bytes, zz⟩) (hx : s.ev x = .sl (l.map enc)) (hy : s.ev y = .int kk n) (hg : Sh.get l n = some u) (hq : enc u = cs) (hs : cs.length = size) :
    AQ P s (.indexAddr t x y) (.iptr cs 0) := by subst hq; exact aq_ixs he hx hy hg hs
theorem map_getE {α : Type} {l : List α} {enc : α → List AV} {n : Int} {u : α} {cs : List AV} (h : Sh.get l n = some u) (he : enc u = cs) : (l.map enc)[n.toNat]? = some cs := by subst he; exact map_get h
/-- The last piece of a function. -/
theorem AW.fin {P : Program} {k : Nat} {c : Code} {Q : Exit → St → Prop} {s : St} (h : ∀ K : St → Prop, (∀ s', Q .normal s' → K s') → AW P k c (athen K Q) s) : AW P k c Q s :=
  (h (fun s' => Q .normal s') fun _ h => h).mono fun e s' hq => by cases e <;> exact hq
end Go.Abs

/- The program's data as plain data. -/
namespace RC
open Go Go.Abs
structure Cell where
  count : Int
  tag : Int
  fields : List Int
def eI (n : Int) : List AV := [.int .i64 n]
def eI_u8 (n : Int) : List AV := [.int .u8 n]
def eB (b : Bool) : List AV := [.bool b]
def eS {α : Type} (e : α → List AV) (l : List α) : List AV := [.sl (l.map e)]
def eCell (c : Cell) : List AV := [.int .i64 c.count, .int .i64 c.tag, .sl (c.fields.map eI)]
structure Lazy where
  cells : List Cell
  pending : List Int
def eLazy (z : Lazy) : List AV := [.sl (z.cells.map eCell), .sl (z.pending.map eI)]

/-! What is known of what comes in. -/
def I64 (n : Int) : Prop := -9223372036854775808 ≤ n ∧ n ≤ 9223372036854775807
def U8 (n : Int) : Prop := 0 ≤ n ∧ n ≤ 255
def ListIn {α : Type} (good : α → Prop) (l : List α) : Prop := (∀ x ∈ l, good x) ∧ l.length ≤ 9223372036854775807
structure CellIn (c : Cell) : Prop where
  count : I64 c.count
  tag : I64 c.tag
  flds : ListIn I64 c.fields
structure LazyIn (z : Lazy) : Prop where
  cells : ListIn CellIn z.cells
  pending : ListIn I64 z.pending
theorem CellIn.fields {c : Cell} (h : CellIn c) : ∀ x ∈ c.fields, I64 x := h.flds.1
theorem CellIn.len {c : Cell} (h : CellIn c) : c.fields.length ≤ 9223372036854775807 := h.flds.2
end RC

/- Blocks of steps: plain data that hold themselves. -/
namespace RC
open Go Go.Abs
structure BlockOf (S : Type) where
  steps : List S
  result : Int
inductive Step where
  | mk (op num into : Int) (args : List Int) (kids : List (BlockOf Step))
abbrev Block := BlockOf Step
@[reducible] def Block.mk (steps : List Step) (result : Int) : Block := ⟨steps, result⟩
def Step.op : Step → Int | .mk o _ _ _ _ => o
def Step.num : Step → Int | .mk _ n _ _ _ => n
def Step.into : Step → Int | .mk _ _ i _ _ => i
def Step.args : Step → List Int | .mk _ _ _ a _ => a
def Step.kids : Step → List Block | .mk _ _ _ _ k => k
theorem Step.eta (s : Step) : s = Step.mk s.op s.num s.into s.args s.kids := by cases s; rfl

noncomputable def eStep (s : Step) : List AV :=
  Step.rec (motive_1 := fun _ => List AV) (motive_2 := fun _ => List (List AV)) (motive_3 := fun _ => List AV) (motive_4 := fun _ => List (List AV))
    (fun o n i a _ ks => [.int .i64 o, .int .i64 n, .int .i64 i, .sl (a.map eI), .sl ks])
    [] (fun _ _ b bs => b :: bs) (fun _ r ss => [.sl ss, .int .i64 r]) [] (fun _ _ s ss => s :: ss) s
noncomputable def eBlock (b : Block) : List AV := [.sl (b.steps.map eStep), .int .i64 b.result]

theorem eStep_kids (ks : List Block) :
    Step.rec_1 (motive_1 := fun _ => List AV) (motive_2 := fun _ => List (List AV)) (motive_3 := fun _ => List AV) (motive_4 := fun _ => List (List AV))
    (fun o n i a _ ks => [.int .i64 o, .int .i64 n, .int .i64 i, .sl (a.map eI), .sl ks])
    [] (fun _ _ b bs => b :: bs) (fun _ r ss => [.sl ss, .int .i64 r]) [] (fun _ _ s ss => s :: ss) ks = ks.map eBlock := by
  have key : ∀ ss : List Step, Step.rec_3 (motive_1 := fun _ => List AV) (motive_2 := fun _ => List (List AV)) (motive_3 := fun _ => List AV) (motive_4 := fun _ => List (List AV))
    (fun o n i a _ ks => [.int .i64 o, .int .i64 n, .int .i64 i, .sl (a.map eI), .sl ks])
    [] (fun _ _ b bs => b :: bs) (fun _ r ss => [.sl ss, .int .i64 r]) [] (fun _ _ s ss => s :: ss) ss = ss.map eStep := by
    intro ss
    induction ss with
    | nil => rfl
    | cons s ss ih => exact congrArg (eStep s :: ·) ih
  induction ks with
  | nil => rfl
  | cons b ks ih =>
    obtain ⟨ss, r⟩ := b
    exact (congrArg (· :: _) (congrArg (fun x => [AV.sl x, AV.int .i64 r]) (key ss))).trans (congrArg (eBlock ⟨ss, r⟩ :: ·) ih)
theorem eStep_eq (s : Step) : eStep s = [.int .i64 s.op, .int .i64 s.num, .int .i64 s.into, .sl (s.args.map eI), .sl (s.kids.map eBlock)] := by
  obtain ⟨o, n, i, a, k⟩ := s
  exact congrArg (fun x => [AV.int .i64 o, .int .i64 n, .int .i64 i, .sl (a.map eI), .sl x]) (eStep_kids k)
theorem eStep_pure (s : Step) : (eStep s).all simple = true := by rw [eStep_eq]; rfl
theorem eStep_len (s : Step) : (eStep s).length = 5 := by rw [eStep_eq]; rfl

/-! What comes in. -/
def stepIn (s : Step) : Prop :=
  Step.rec (motive_1 := fun _ => Prop) (motive_2 := fun _ => Prop) (motive_3 := fun _ => Prop) (motive_4 := fun _ => Prop)
    (fun o n i a ks p => I64 o ∧ I64 n ∧ I64 i ∧ ListIn I64 a ∧ p ∧ ks.length ≤ 9223372036854775807)
    True (fun _ _ b bs => b ∧ bs) (fun ss r p => p ∧ ss.length ≤ 9223372036854775807 ∧ I64 r) True (fun _ _ s ss => s ∧ ss) s
end RC

/- Slices built in a head that draws its order, of values that hold nil slices. -/
namespace Go.Abs
open Go
inductive PL : List (Nat × AV) → List (Nat × AV) → Prop where
  | nil : PL [] []
  | cons {i : Nat} {a b : AV} {r r' : List (Nat × AV)} : le a b → PL r r' → PL ((i, a) :: r) ((i, b) :: r')
theorem PL.fst {r r' : List (Nat × AV)} (h : PL r r') : r.map (·.1) = r'.map (·.1) := by
  induction h with
  | nil => rfl
  | cons _ _ ih => simp [ih]
theorem PL.get {r r' : List (Nat × AV)} (h : PL r r') : ∀ (j : Nat) (p' : Nat × AV), r'[j]? = some p' → ∃ p, r[j]? = some p ∧ le p.2 p'.2 := by
  induction h with
  | nil => intro j p' h; simp at h
  | cons hl _ ih =>
    intro j p' h
    cases j with
    | zero => simp at h; subst h; exact ⟨_, rfl, hl⟩
    | succ j => simpa using ih j p' (by simpa using h)
section
variable {P : Program} {ds : List (Option Tmp)} {r : List Oper} {n : Nat} {e : Nat → AV} {st : List Row} {ty : TypeId} {ps : String} {ed : Array Edge} {t : Tmp} {gd : Option (Nat × Bool)} {KS : St → Prop}
variable {α : Type} {l : List α} {enc : α → List AV} {el T : TypeId} {size bytes : Nat} {zz cs : List AV}
theorem d_bsz {len : Nat} {parts : Array (Nat × Operand)} {pv pv' : List (Nat × AV)} (hg : GO ds gd e) (he : einfo P T = some ⟨el, size, bytes, zz⟩) (hle : len * size ≤ 16777216) (hp : (parts.toList.map fun p => (p.1, St.ev ⟨n, e, st⟩ p.2)) = pv)
    (hpf : (pv.all fun p => flat p.2) = true) (hpl : PL pv pv') (hc : afill (fun i => some (i * size, size)) ((List.replicate len zz).flatten) pv' = some cs) (hck : chunk size len cs = l.map enc) (hln : len = l.length) (hpu : pureRow (l.map enc))
    (hk : dops P (ds ++ [some t]) r KS ⟨n, upd e t (.sl (l.map enc)), st⟩) : dops P ds (⟨some t, .buildSlice T len parts, ty, ps, ed, gd⟩ :: r) KS ⟨n, e, st⟩ := by
  refine d_l hg rfl (fun s0 e1 e2 hd k F os a w hr next Q hn => ?_) hk
  have hpv : (parts.toList.map fun p => (p.1, s0.ev p.2)) = pv := by
    rw [← hp]
    refine List.map_congr_left fun p hp' => ?_
    rw [e2 p.2 (by simp only [Op.operands, List.mem_toArray, List.mem_map]; exact ⟨p, by simpa using hp', rfl⟩)]
  have h9 : Effects P 0 F [] ⟨s0.n, fun _ => .junk, []⟩ a w (Instr.buildSlice T len (parts.map fun (i, x) => (i, a.eval x))) (fun x st => x = .own 0 0 l.length ∧ st = [⟨0, el, size, l.map enc⟩]) := by
    refine aBuildSlice_ok (parts := pv') hr.bare (optK_intro _ he ⟨hle, optK_intro _ hc (by subst hln; rw [hck]; exact ⟨rfl, rfl⟩)⟩) (by rw [← hpl.fst, ← hpv]; simp) fun i p' up hp' hup => ?_
    obtain ⟨p, hp, hlp⟩ := hpl.get i p' hp'
    refine hlp _ _ _ _ ?_
    have hfl : flat p.2 = true := List.all_eq_true.1 hpf p (List.mem_of_getElem? hp)
    rw [← hpv] at hp
    simp only [List.getElem?_map, Option.map_eq_some_iff, Array.toList_map] at hp hup
    obtain ⟨q, hq, rfl⟩ := hp
    obtain ⟨q', hq', rfl⟩ := hup
    rw [hq] at hq'; cases hq'
    exact rep_flat hfl [] (hr.ev _)
  obtain ⟨u, w', F', g1, g2, g3, g4⟩ := Effects.quiet (k := k) hr h9 (Wk.row0 hpu) rfl
  unfold Oper.wp
  simp only [execOp, Sem.run_bind, g1, Result.andThen_ok, Sem.run_pure, Oper.upon]
  exact hn _ _ (putStep (st' := s0.st) hd rfl g2 g3 g4)
end
end Go.Abs
namespace Go.Abs
open Go
section
variable {F : Nat → Prop} {os : List Own} {s : St} {a : Act} {w : World} {k : Nat}

/-- The cells of a row are taken for others. -/
theorem Rel.cellMap (hr : Rel F os s a w) {id : Nat} {o : Own} (ho : os[id]? = some o) {cs cs' : List AV} (hx : o.row.xs = [cs]) (hlen : cs'.length = cs.length) (hleaf : ∀ c ∈ cs', c.leaf = true)
    (hm : ∀ (j : Nat) c c' u, cs[j]? = some c → cs'[j]? = some c' → Rep F w os c u → Rep F w os c' u) :
    Rel F (os.set id ⟨{ o.row with xs := [cs'] }, o.blk, o.cap, o.more⟩) { s with st := (os.set id ⟨{ o.row with xs := [cs'] }, o.blk, o.cap, o.more⟩).map Own.row } a w ∧ Ext F os w F (os.set id ⟨{ o.row with xs := [cs'] }, o.blk, o.cap, o.more⟩) w k := by
  have hlt := (List.getElem?_eq_some_iff.1 ho).1
  have hos : HosLe os (os.set id ⟨{ o.row with xs := [cs'] }, o.blk, o.cap, o.more⟩) := HosLe.set ho (Nat.le_refl _) rfl fun _ => ⟨rfl, rfl, by simp [hx]⟩
  have hget : ∀ (i : Nat) (oi : Own), (os.set id ⟨{ o.row with xs := [cs'] }, o.blk, o.cap, o.more⟩)[i]? = some oi → (i ≠ id ∧ os[i]? = some oi) ∨ (i = id ∧ oi = ⟨{ o.row with xs := [cs'] }, o.blk, o.cap, o.more⟩) := fun i oi hi => by
    by_cases e : i = id
    · subst e
      rw [List.getElem?_set_self hlt] at hi
      exact .inr ⟨rfl, by simpa using hi.symm⟩
    · rw [List.getElem?_set_ne (Ne.symm e)] at hi
      exact .inl ⟨e, hi⟩
  have hok := hr.rows id o ho
  have h := hr.onto (k := k) (Turns.refl w none) (by simp) hos (fun i oi hi => by
      rcases hget i oi hi with ⟨_, h⟩ | ⟨_, rfl⟩
      · exact .inl ⟨h, by simp⟩
      · refine .inr ⟨hok.pos, fun x hxm => ?_, fun hb => ?_, fun b hb => ?_, hok.mo, DeepOK.flat fun x hxm => by
          simp only [List.mem_singleton] at hxm
          subst hxm
          exact hleaf⟩
        · simp only [List.mem_singleton] at hxm
          subst hxm
          exact ⟨hlen.trans (hok.lens cs (by rw [hx]; simp)).1, fun c hc => AV.kept_leaf (hleaf c hc)⟩
        · have := (hok.none hb).1
          rw [hx] at this; cases this
        · obtain ⟨h1, cur, h2, h3, h4, h5, h6⟩ := hok.some b hb
          refine ⟨h1, cur, h2, h3, by rw [hx] at h4; exact h4, h5, fun i x hxi j c hc => ?_⟩
          cases i with
          | succ i => simp at hxi
          | zero =>
            simp only [List.getElem?_cons_zero, Option.some.injEq] at hxi
            subst hxi
            have hj : j < cs.length := by rw [← hlen]; exact (List.getElem?_eq_some_iff.1 hc).1
            obtain ⟨u, e1, e2⟩ := h6 0 cs (by rw [hx]; rfl) j _ (List.getElem?_eq_getElem hj)
            exact ⟨u, e1, rep_mono (fun _ h => h) (fun _ _ => rfl) os _ hos c u (hm j _ c u (List.getElem?_eq_getElem hj) hc e2)⟩)
    (fun i j oi oj g hi hj hgi hgj => by
      rcases hget i oi hi with ⟨h, h'⟩ | ⟨rfl, rfl⟩ <;> rcases hget j oj hj with ⟨g1, g2⟩ | ⟨g1, rfl⟩
      · exact hr.inj i j oi oj g h' g2 hgi hgj
      · subst g1; exact absurd (hr.inj i j oi o g h' ho hgi hgj) h
      · exact absurd (hr.inj i j o oj g ho g2 hgi hgj).symm g1
      · exact g1.symm)
    (fun o' ho' g hg => by
      obtain ⟨i, hi⟩ := List.getElem?_of_mem ho'
      rcases hget i o' hi with ⟨_, h⟩ | ⟨_, rfl⟩
      · exact .inr ⟨o', List.mem_of_getElem? h, hg⟩
      · exact .inr ⟨o, List.mem_of_getElem? ho, hg⟩)
    (by simp)
  exact ⟨h.1, h.2.1⟩

theorem leL.get : ∀ {xs ys : List AV}, leL xs ys → xs.length = ys.length ∧ ∀ (j : Nat) x y, xs[j]? = some x → ys[j]? = some y → le x y
  | [], [], _ => ⟨rfl, fun j x y h => by simp at h⟩
  | x :: xs, y :: ys, h => by
    obtain ⟨h1, h2⟩ := leL.get h.2
    refine ⟨by simp [h1], fun j a b ha hb => ?_⟩
    cases j with
    | zero => simp at ha hb; subst ha; subst hb; exact h.1
    | succ j => exact h2 j a b (by simpa using ha) (by simpa using hb)

/-- The cells of a row are taken for wider ones. -/
theorem Wk.cellLe {id g size : Nat} {el : TypeId} {cs cs' : List AV} {n : Nat} {e : Nat → AV} {st st' : List Row} (hrow : st[id]? = some ⟨g, el, size, [cs]⟩) (hl : leL cs cs') (hlf : cs'.all AV.leaf = true) (hst : st.set id ⟨g, el, size, [cs']⟩ = st') : Wk k ⟨n, e, st⟩ ⟨n, e, st'⟩ := fun F os a w hr => by
  subst hst
  obtain ⟨o, ho, hor⟩ := hr.row hrow
  obtain ⟨h1, h2⟩ := hl.get
  obtain ⟨g1, g2⟩ := hr.cellMap (k := k) ho (cs := cs) (cs' := cs') (by rw [hor]) h1.symm (fun c hc => List.all_eq_true.1 hlf c hc) fun j c c' u hc hc' hu => h2 j c c' hc hc' F w os u hu
  refine ⟨F, _, ?_, g2⟩
  have e1 : (os.set id ⟨{ o.row with xs := [cs'] }, o.blk, o.cap, o.more⟩).map Own.row = st.set id ⟨g, el, size, [cs']⟩ := by
    rw [List.map_set, hor, show os.map Own.row = st from hr.st]
  rw [e1] at g1
  exact g1

/-- A nil slice in a cell of a row becomes a row of the call's own. -/
theorem Wk.adoptC {id g size m : Nat} {el : TypeId} {cs cs' : List AV} {n j : Nat} {e : Nat → AV} {st st' : List Row} (hrow : st[id]? = some ⟨g, el, size, [cs]⟩) (hj : cs[j]? = some .zc) (e' : TypeId) {size' : Nat} (hpos : 0 < size') (hm : st.length = m) (hcs : cs.set j (.own m 0 0) = cs')
    (hlf : cs.all AV.leaf = true) (hst : st.set id ⟨g, el, size, [cs']⟩ ++ [⟨0, e', size', []⟩] = st') : Wk k ⟨n, e, st⟩ ⟨n, e, st'⟩ := fun F os a w hr => by
  subst hst; subst hcs; subst hm
  obtain ⟨o, ho, hor⟩ := hr.row hrow
  obtain ⟨h1, h2, _⟩ := hr.addNone (k := k) (e := e') hpos
  have hlt := (List.getElem?_eq_some_iff.1 ho).1
  have hst : os.map Own.row = st := hr.st
  have hol : os.length = st.length := by rw [← hst]; simp
  have ho2 : (os ++ [(⟨⟨0, e', size', []⟩, none, 0, none'⟩ : Own)])[id]? = some o := by rw [List.getElem?_append_left hlt]; exact ho
  obtain ⟨g1, g2⟩ := h1.cellMap (k := k) ho2 (cs := cs) (cs' := cs.set j (.own st.length 0 0)) (by rw [hor]) (by simp) (fun c hc => by
      rcases List.mem_or_eq_of_mem_set hc with h | rfl
      · exact List.all_eq_true.1 hlf c h
      · rfl) fun i c c' u hc hc' hu => by
    by_cases e : i = j
    · subst e
      rw [hj] at hc; cases hc
      rw [List.getElem?_set_self (List.getElem?_eq_some_iff.1 hj).1] at hc'
      cases hc'
      simp only [Rep] at hu ⊢
      obtain ⟨ad, rfl⟩ := hu
      exact ⟨⟨⟨0, e', size', []⟩, none, 0, none'⟩, by rw [← hol]; exact new_get _ _, Nat.le_refl _, ⟨_, _, _, rfl⟩, fun _ => ⟨Nat.zero_le _, .inl ⟨rfl, ad, rfl⟩⟩⟩
    · rw [List.getElem?_set_ne (Ne.symm e), hc] at hc'
      cases hc'; exact hu
  refine ⟨F, _, ?_, h2.trans g2⟩
  have e1 : ((os ++ [(⟨⟨0, e', size', []⟩, none, 0, none'⟩ : Own)]).set id ⟨{ o.row with xs := [cs.set j (.own st.length 0 0)] }, o.blk, o.cap, o.more⟩).map Own.row = st.set id ⟨g, el, size, [cs.set j (.own st.length 0 0)]⟩ ++ [⟨0, e', size', []⟩] := by
    rw [List.map_set, List.map_append, hst, hor, List.set_append_left]
    · rfl
    · have : id < st.length := by rw [← hol]; exact hlt
      exact this
  rw [e1] at g1
  exact g1
end
end Go.Abs
