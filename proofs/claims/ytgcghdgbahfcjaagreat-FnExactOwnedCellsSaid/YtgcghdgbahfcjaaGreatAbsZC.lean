import Derived.Test.YtgcghdgbahfcjaaGreatGEncCToAbsZB

namespace Go.Abs
open Go
variable {P : Program} {F : Nat → Prop} {os : List Own} {s : St} {a : Act} {w : World} {k : Nat}
def fzD1 (id g : Nat) (xs : List (List AV)) : AV → AV
 | .own id' g' n => if id' = id ∧ g' = g then (if n = xs.length then .sl (undR xs) else .junk) else .own id' g' n
 | v => v
def fzD (id g : Nat) (xs : List (List AV)) : AV → AV
 | .agg cs => .agg (cs.map (fzD1 id g xs))
 | .tup cs => .tup (cs.map (fzD1 id g xs))
 | v => fzD1 id g xs v
theorem Wk.freezeD {id : Nat} {row : Row} (hid : k ≤ id) (hrow : s.st[id]? = some row) (hp : deepR row.xs) :
  Wk k s ⟨s.n, fun t => fzD id row.gen row.xs (s.env t), s.st.set id { row with gen := row.gen + 1, xs := [] }⟩ := fun F os a w hr => by
 obtain ⟨o, ho, rfl⟩ := hr.row hrow
 have hok := hr.rows id o ho
 refine ⟨fun b => F b ∨ o.owns b, os.set id ⟨{ o.row with gen := o.row.gen + 1, xs := [] }, none, 0, none'⟩, ?_, ?_⟩
 case refine_2 =>
  refine ⟨rfl, rfl, rfl, Nat.le_refl _, fun _ h => .inl h, fun _ _ => rfl, fun b _ h1 h2 => ⟨rfl, fun h => h.elim h1 (fun e => h2 o (List.mem_of_getElem? ho) e), fun o' ho' => ?_⟩, fun i oi hi hoi => ⟨oi, ?_, Nat.le_refl _, rfl, fun _ => ⟨rfl, rfl, rfl⟩⟩⟩
  ·rcases List.mem_or_eq_of_mem_set ho' with h | rfl
   ·exact h2 o' h
   ·intro hh
    rcases hh with hh | hh
    ·simp at hh
    ·exact hh
  ·rw [List.getElem?_set_ne (by omega)]; exact hoi
 have hF : ∀ b, F b → (fun b => F b ∨ o.owns b) b := fun _ h => .inl h
 have hos : HosLe os (os.set id ⟨{ o.row with gen := o.row.gen + 1, xs := [] }, none, 0, none'⟩) := HosLe.set ho (by simp) rfl (fun e => by simp at e)
 have hmono : ∀ x v, Rep F w os x v → Rep (fun b => F b ∨ o.owns b) w (os.set id ⟨{ o.row with gen := o.row.gen + 1, xs := [] }, none, 0, none'⟩) x v := fun x v h =>
  rep_mono hF (fun _ _ => rfl) os _ hos x v h
 have h1 : ∀ x v, Rep F w os x v → Rep (fun b => F b ∨ o.owns b) w (os.set id ⟨{ o.row with gen := o.row.gen + 1, xs := [] }, none, 0, none'⟩) (fzD1 id o.row.gen o.row.xs x) v := fun x v h => by
  cases x with
  | own id' g' n =>
   simp only [fzD1]
   split
   ·rename_i hif
    obtain ⟨rfl, rfl⟩ := hif
    split
    ·rename_i hn0
     subst hn0
     simp only [Rep] at h
     obtain ⟨o', ho', _, _, h⟩ := h
     rw [ho] at ho'; cases ho'
     obtain ⟨_, hv⟩ := h rfl
     have hD := ownOK_repD hok hp (v := v) hv
     have := (repD_und (F := fun b => F b ∨ o.owns b) (fun b hb => .inr hb) _ _ hD).1
     simp only [und, Rep] at this ⊢
     exact this
    ·simp [Rep]
   ·exact hmono _ _ h
  | _ => exact hmono _ _ h
 have hL : ∀ xs us, RepL F w os xs us → RepL (fun b => F b ∨ o.owns b) w (os.set id ⟨{ o.row with gen := o.row.gen + 1, xs := [] }, none, 0, none'⟩) (xs.map (fzD1 id o.row.gen o.row.xs)) us := fun xs us h =>
  repL_mk (by simp [repL_length h]) fun i x u hx hu => by
   simp only [List.getElem?_map, Option.map_eq_some_iff] at hx
   obtain ⟨y, hy, rfl⟩ := hx
   obtain ⟨u', e1, e2⟩ := repL_get h i y hy
   rw [hu] at e1; cases e1
   exact h1 _ _ e2
 have hget : ∀ (i : Nat) (oi : Own), (os.set id ⟨{ o.row with gen := o.row.gen + 1, xs := [] }, none, 0, none'⟩)[i]? = some oi → (i ≠ id ∧ os[i]? = some oi) ∨ (i = id ∧ oi = ⟨{ o.row with gen := o.row.gen + 1, xs := [] }, none, 0, none'⟩) := fun i oi hi => by
  by_cases e : i = id
  ·subst e; rw [List.getElem?_set_self (List.getElem?_eq_some_iff.1 ho).1, Option.some.injEq] at hi; exact .inr ⟨rfl, hi.symm⟩
  ·rw [List.getElem?_set_ne (Ne.symm e)] at hi; exact .inl ⟨e, hi⟩
 refine ⟨by rw [List.map_set, hr.st], fun t => ?_, hr.size, fun i oi hi => ?_, fun i j oi oj b hi hj hbi hbj => ?_, fun b hb => ?_, hr.defers⟩
 ·have := hr.env t
  simp only
  generalize s.env t = x at this ⊢
  cases x with
  | agg cs => simp only [fzD, Rep] at this ⊢; obtain ⟨us, e, h⟩ := this; exact ⟨us, e, hL _ _ h⟩
  | tup cs => simp only [fzD, Rep] at this ⊢; obtain ⟨us, e, h⟩ := this; exact ⟨us, e, hL _ _ h⟩
  | _ => exact h1 _ _ this
 ·rcases hget i oi hi with ⟨hne, h⟩ | ⟨_, rfl⟩
  ·have hoki := hr.rows i oi h
   refine ⟨hoki.pos, hoki.lens, hoki.none, fun b hb => ?_, fun b hb => ⟨fun hF => hF.elim (hoki.mo b hb).1 (fun hob => hne (hr.inj i id oi o b h ho (.inr hb) hob)), (hoki.mo b hb).2⟩, hoki.deep⟩
   obtain ⟨e1, cur, e2, e3, e4, e5, e6⟩ := hoki.some b hb
   refine ⟨fun hF => hF.elim e1 (fun hob => hne (hr.inj i id oi o b h ho (.inl hb) hob)), cur, e2, e3, e4, e5, fun i' x hx j c hc => ?_⟩
   obtain ⟨u, f1, f2⟩ := e6 i' x hx j c hc
   exact ⟨u, f1, hmono _ _ f2⟩
  ·exact ⟨hok.pos, by simp, by simp, by simp, fun b hb => hb.elim, DeepOK.flat (by simp)⟩
 ·rcases hget i oi hi with ⟨hne, h⟩ | ⟨h, rfl⟩ <;> rcases hget j oj hj with ⟨hne', h'⟩ | ⟨h', rfl⟩
  ·exact hr.inj i j oi oj b h h' hbi hbj
  ·exact hbj.elim (fun e => by simp at e) fun e => e.elim
  ·exact hbi.elim (fun e => by simp at e) fun e => e.elim
  ·omega
 ·rcases hb with hb | hb | hb
  ·exact hr.old b hb
  ·obtain ⟨_, cur, hcur, _⟩ := hok.some b hb
   exact (Array.getElem?_eq_some_iff.1 hcur).1
  ·exact (hok.mo b hb).2.1
variable {α : Type} {l : List α} {enc enc' : α → List AV} {n id g m size : Nat} {e : Nat → AV} {st st' : List Row} {L : List (Nat × AV)} {el : TypeId} {xs : List (List AV)}
theorem fzD1_full (h : m = l.length) (hu : ∀ x, undC (enc x) = enc' x) : fzD1 id g (l.map enc) (.own id g m) = .sl (l.map enc') := by
 subst h
 simp only [fzD1, and_self, if_true, List.length_map]
 rw [undR_eq, List.map_map]
 congr 1
 exact List.map_congr_left fun x _ => hu x
theorem le.fzD1 (h : m = l.length) (hu : ∀ x, undC (enc x) = enc' x) : le (Abs.fzD1 id g (l.map enc) (.own id g m)) (.sl (l.map enc')) := le.of (fzD1_full h hu)
theorem deepR_map (h : ∀ x, (enc x).all deepC = true) : deepR (l.map enc) := fun x hx c hc => by
 obtain ⟨y, _, rfl⟩ := List.mem_map.1 hx
 exact List.all_eq_true.1 (h y) c hc
theorem Wk.frzD (hrow : st[id]? = some ⟨g, el, size, xs⟩) (hid : k ≤ id) (hp : deepR xs) (h : ME (fun t => Abs.fzD id g xs (e t)) L) (hst : st.set id ⟨g + 1, el, size, []⟩ = st') : Wk k ⟨n, e, st⟩ ⟨n, envL L, st'⟩ := by
 subst hst
 exact (Wk.freezeD (s := ⟨n, e, st⟩) hid hrow hp).trans (Wk.to h)
end Go.Abs

