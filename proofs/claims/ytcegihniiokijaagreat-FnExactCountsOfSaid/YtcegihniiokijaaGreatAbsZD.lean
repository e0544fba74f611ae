import Derived.Test.YtcegihniiokijaaGreatAbsZC

namespace Go.Abs
open Go
variable {P : Program} {F : Nat → Prop} {os : List Own} {s : St} {a : Act} {w : World} {k : Nat}
section
variable {P : Program} {ops : Array Oper} {Q : Exit → St → Prop} {n N f i : Nat} {listed listed' : Array Bool} {e : Nat → AV} {ty : TypeId} {p : String} {ed : Array Edge} {t : Tmp} {α : Type} {l l2 l' : List α} {enc : α → List AV} {x y : Operand} {g m size bytes : Nat} {el : TypeId} {zz : List AV} {T : TypeId} {rst : List Row} {k : Nat}
theorem AX.lst (h : listed = listed') {s : St} (ha : AX P k ops Q N f listed s) : AX P k ops Q N f listed' s := h ▸ ha
theorem AX.one {s : St} (h : ∀ A : Nat → Array Bool → St → Prop, (∀ f l s, A f l s ↔ AX P k ops Q N f l s) → A f listed s) : AX P k ops Q N f listed s :=
 h (AX P k ops Q N) (fun _ _ _ => Iff.rfl)
end
section
variable {P : Program} {ds : List (Option Tmp)} {r : List Oper} {KS : St → Prop} {n : Nat} {e : Nat → AV} {st : List Row} {ty : TypeId} {ps : String} {ed : Array Edge} {t : Tmp} {gd : Option (Nat × Bool)} {α : Type} {l l' : List α} {enc : α → List AV} {x : Operand} {size bytes : Nat} {el T : TypeId} {zz : List AV}
theorem d_sls {lo hi : Option Operand} {i j : Int} (hg : GO ds gd e) (he : einfo P T = some ⟨el, size, bytes, zz⟩) (hx : St.ev ⟨n, e, st⟩ x = .sl (l.map enc)) (h1 : bnd (lo.map (St.ev ⟨n, e, st⟩)) 0 = some i) (h2 : bnd (hi.map (St.ev ⟨n, e, st⟩)) l.length = some j) (hs : ∀ a, (enc a).length = size) (hl : Sh.sl l i j = some l')
  (hk : dops P (ds ++ [some t]) r KS ⟨n, upd e t (.sl (l'.map enc)), st⟩) : dops P ds (⟨some t, .slice T x lo hi none, ty, ps, ed, gd⟩ :: r) KS ⟨n, e, st⟩ := by
 refine d_l hg rfl (fun s0 e1 e2 hd k F os a w hr next Q hn => ?_) hk
 refine aloud_ok (k := k) (K := (· = s0.put (some t) (.sl (l'.map enc)))) hr hd ?_ hn
 show aSlice P s0.st T (s0.ev x) (lo.map s0.ev) (hi.map s0.ev) (Option.map s0.ev none) (fun v st => ({ s0 with st := st } : St).put (some t) v = s0.put (some t) (.sl (l'.map enc)))
 have ex : s0.ev x = St.ev ⟨n, e, st⟩ x := e2 x (by simp [Op.operands])
 have elo : lo.map s0.ev = lo.map (St.ev ⟨n, e, st⟩) := by
  cases lo with
  | none => rfl
  | some y => simp only [Option.map_some]; rw [e2 y (by simp [Op.operands])]
 have ehi : hi.map s0.ev = hi.map (St.ev ⟨n, e, st⟩) := by
  cases hi with
  | none => rfl
  | some y => simp only [Option.map_some]; rw [e2 y (by simp [Op.operands])]
 rw [ex, elo, ehi, hx]
 unfold Sh.sl at hl
 split at hl
 ·rename_i h
  simp only [Option.some.injEq] at hl
  subst hl
  refine optK_intro _ he (optK_intro _ h1 (optK_intro _ (by rw [List.length_map]; exact h2) ⟨h.1, h.2.1, by simpa using h.2.2, fun z hz => ?_, ?_⟩))
  ·obtain ⟨q, _, rfl⟩ := List.mem_map.1 hz; exact hs q
  ·rw [List.map_drop, List.map_take]
 ·cases hl
end
end Go.Abs

