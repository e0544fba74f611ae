import Derived.Test.YtpahalfiiahddaaXOE

namespace RC
open Go
section
variable {p : RProgram} {R1 : RProgram → List Int → RExpr → Option Int} {R2 : List Int → RSignatures → RExpr → Option Int} {T : List Int → RExpr → Int} {e : RExpr} {v : List Int} {N : Nat}
theorem num_ok (S : SigOK p.decls p.funcs) {t : Int} (hB : spec_typeOf_B N R1 p v e = some t) (ht : t ≠ -1) (h : e.op = 9 ∨ e.op = 10) : 0 ≤ e.num ∧ e.num < (p.funcs.length : Int) := by
 have hF := S.flen
 by_cases hr : 0 ≤ e.num ∧ e.num ≤ (p.funcs.length : Int) - 1
 ·omega
 ·exfalso
  apply ht
  have hb : (decide (0 ≤ e.num) && decide (e.num ≤ (p.funcs.length : Int) - 1)) = false := by
   rw [← Bool.decide_and]; exact decide_eq_false hr
  unfold spec_typeOf_B spec_callType at hB
  rcases h with h | h
  all_goals
   simp only [h, Int.reduceEq, decide_true, decide_false, Bool.false_eq_true, if_true, if_false, Option.bind_some] at hB
   rw [inRange_eq, len_def p.funcs, w_id (n := (p.funcs.length : Int) - 1) (by omega) (by omega), hb] at hB
   simpa [Sh.cont] using hB.symm
theorem oneM_all {l : List Int} (h : oneM l ≠ -1) : ∀ x ∈ l, x ≠ -1 := by
 cases l with
 | nil => exact absurd rfl h
 | cons a r =>
  simp only [oneM] at h
  by_cases hr : r.all (fun x => decide (x = a)) = true
  ·rw [if_pos hr] at h
   intro x hx
   rcases List.mem_cons.1 hx with rfl | hx
   ·exact h
   ·have := List.all_eq_true.1 hr x hx
    simp only [decide_eq_true_eq] at this
    rw [this]; exact h
  ·rw [if_neg hr] at h; exact absurd rfl h
theorem kids_ok (H : TOK p (sgP p) R1 R2 T (en e)) (V : VOK p e v) (S : SigOK p.decls p.funcs) (hN : 2000000 ≤ N) {t : Int} (hB : impl_signatures_typeOf_B N R2 v (sgP p) e = some t) (ht : t ≠ -1) :
  ∀ k ∈ e.kids, ∃ m : List Int, m.length ≤ 3 ∧ (∀ x ∈ m, tyB p.decls x = true) ∧ T (v ++ m) k ≠ -1 := by
 have hv : v.length ≤ 1000 := by have := V.len; omega
 have nil : ∀ k, T v k ≠ -1 → ∃ m : List Int, m.length ≤ 3 ∧ (∀ x ∈ m, tyB p.decls x = true) ∧ T (v ++ m) k ≠ -1 := fun k h => ⟨[], by simp, fun x hx => (by cases hx), by simpa using h⟩
 by_cases h12 : e.op = 12
 ·unfold impl_signatures_typeOf_B at hB
  simp only [h12, decide_true, if_true] at hB
  intro k hk
  have : 0 < Sh.len e.kids := by rw [len_def]; have := List.length_pos_of_mem hk; omega
  simp only [this, decide_true, if_true, Option.bind_some, Option.some.injEq] at hB
  exact absurd hB.symm ht
 by_cases h13 : e.op = 13
 ·unfold impl_signatures_typeOf_B at hB
  simp only [h13, Int.reduceEq, decide_true, decide_false, Bool.false_eq_true, if_true, if_false] at hB
  by_cases hl : e.kids.length = 2
  ·obtain ⟨a, b, hk⟩ : ∃ a b, e.kids = [a, b] := by
    match hk : e.kids, hl with
    | [a, b], _ => exact ⟨a, b, rfl⟩
   have hma : a ∈ e.kids := by rw [hk]; simp
   have hmb : b ∈ e.kids := by rw [hk]; simp
   obtain ⟨a1, a2, a3⟩ := H v a (V.inn.kids a hma) (en_kid hma) (V.kid hma) V.tys
   have g0 : Sh.get e.kids 0 = some a := by rw [hk]; rfl
   have g1 : Sh.get e.kids 1 = some b := by rw [hk]; rfl
   rw [g0, g1] at hB
   simp only [Option.bind_some, len_def, hl] at hB
   rw [a2] at hB
   simp only [Option.bind_some] at hB
   by_cases hn : e.num = 0
   ·by_cases h0 : T v a < 0
    ·simp [hn, h0] at hB; exact absurd hB.symm ht
    ·have hty : tyB p.decls (T v a) = true := a3.resolve_left (by omega)
     obtain ⟨b1, b2, b3⟩ := H (v ++ [T v a]) b (V.inn.kids b hmb) (en_kid hmb) (V.more hmb (by simp)) (V.tys2 (by simp [hty]))
     rw [app_ok v [T v a] 8 (by simp; omega) (by simp; omega)] at hB
     simp only [Option.bind_some, b2] at hB
     simp [hn, h0] at hB
     intro k hkm
     rw [hk] at hkm
     simp only [List.mem_cons, List.not_mem_nil, or_false] at hkm
     rcases hkm with rfl | rfl
     ·exact nil _ (by omega)
     ·exact ⟨[T v a], by simp, by simp [hty], by rw [hB]; exact ht⟩
   ·simp [hn] at hB; exact absurd hB.symm ht
  ·have : ¬ ((e.kids.length : Int) = 2) := by omega
   simp [len_def, this] at hB; exact absurd hB.symm ht
 by_cases h7 : e.op = 7
 ·unfold impl_signatures_typeOf_B at hB
  simp only [h7, Int.reduceEq, decide_true, decide_false, Bool.false_eq_true, if_true, if_false] at hB
  by_cases hl : e.kids.length = 3
  ·obtain ⟨a, b, c, hk⟩ : ∃ a b c, e.kids = [a, b, c] := by
    match hk : e.kids, hl with
    | [a, b, c], _ => exact ⟨a, b, c, rfl⟩
   have hma : a ∈ e.kids := by rw [hk]; simp
   have hmb : b ∈ e.kids := by rw [hk]; simp
   have hmc : c ∈ e.kids := by rw [hk]; simp
   obtain ⟨a1, a2, a3⟩ := H v a (V.inn.kids a hma) (en_kid hma) (V.kid hma) V.tys
   have g0 : Sh.get e.kids 0 = some a := by rw [hk]; rfl
   have g3 : Sh.sl e.kids 1 3 = some [b, c] := by rw [hk]; rfl
   have o := oneType_eq (ks := [b, c]) (ms := [[], []]) H V hN (by intro k hk; simp only [List.mem_cons, List.not_mem_nil, or_false] at hk; rcases hk with rfl | rfl <;> assumption) (by simp) rfl (by simp)
   have mk2 : Sh.mk ([] : List Int) 2 24 = some [[], []] := mk_ok [] 2 24 (by omega) (by omega)
   rw [g0] at hB
   simp only [Option.bind_some, len_def, hl] at hB
   rw [a2, show ((3 : Nat) : Int) = 3 from rfl, g3, mk2] at hB
   simp only [Option.bind_some] at hB
   rw [o] at hB
   by_cases hn : e.num = 0
   ·by_cases h0 : T v a = 0
    ·simp [hn, h0] at hB
     have hal := oneM_all (l := [T v b, T v c]) (by rw [hB]; exact ht)
     intro k hkm
     rw [hk] at hkm
     simp only [List.mem_cons, List.not_mem_nil, or_false] at hkm
     rcases hkm with rfl | rfl | rfl
     ·exact nil _ (by omega)
     ·exact nil _ (hal _ (by simp))
     ·exact nil _ (hal _ (by simp))
    ·simp [hn, h0] at hB; exact absurd hB.symm ht
   ·simp [hn] at hB; exact absurd hB.symm ht
  ·have : ¬ ((e.kids.length : Int) = 3) := by omega
   simp [len_def, this] at hB; exact absurd hB.symm ht
 by_cases h8 : e.op = 8
 ·have hkl := V.klen
  have hD := S.dlen
  have hn := S.nc
  have hCl := consL_len S.clen e.num
  unfold impl_signatures_typeOf_B at hB
  simp only [h8, Int.reduceEq, decide_true, decide_false, Bool.false_eq_true, if_true, if_false] at hB
  rw [show (sgP p).decls = p.decls from rfl, impl_consOf_eq (by omega) (by omega) hN] at hB
  simp only [Option.bind_some] at hB
  generalize hCe : consL p.decls e.num = C at hCl hB
  have hCm : ∀ c ∈ C, spec_conFields N p.decls c = some (fld p.decls c) ∧ impl_fieldsOf N p.decls c = some (fld p.decls c) ∧ (fld p.decls c).length ≤ 3 ∧ ∀ x ∈ fld p.decls c, tyB p.decls x = true := fun c hc => fld_ok S (hCe ▸ hc) hN
  rw [len_def C, len_def e.kids, w_id (n := 1 + (C.length : Int)) (by omega) (by omega)] at hB
  by_cases h0 : C.length = 0
  ·simp [h0] at hB; exact absurd hB.symm ht
  ·have h0' : ¬ ((C.length : Int) = 0) := by omega
   have hne : ¬ C = [] := fun q => h0 (by rw [q]; rfl)
   by_cases h1 : e.kids.length = 1 + C.length
   ·have h1' : ((e.kids.length : Int) = 1 + (C.length : Int)) := by omega
    obtain ⟨a, r, hks⟩ : ∃ a r, e.kids = a :: r := by
     cases hq : e.kids with
     | nil => rw [hq] at h1; simp at h1; omega
     | cons a r => exact ⟨a, r, rfl⟩
    have hrl : r.length = C.length := by rw [hks] at h1; simp at h1; omega
    have hma : a ∈ e.kids := by rw [hks]; simp
    have hmr : ∀ k ∈ r, k ∈ e.kids := fun k hk => by rw [hks]; simp [hk]
    obtain ⟨a1, a2, a3⟩ := H v a (V.inn.kids a hma) (en_kid hma) (V.kid hma) V.tys
    have g0 : Sh.get e.kids 0 = some a := by rw [hks]; rfl
    have g3 : Sh.sl e.kids 1 (e.kids.length : Int) = some r := by
     unfold Sh.sl
     rw [if_pos ⟨by omega, by omega, by omega⟩, hks]; simp
    have mkC : Sh.mk ([] : List Int) (C.length : Int) 24 = some (List.replicate C.length []) := mk_ok [] C.length 24 (by omega) (by omega)
    have o := oneType_eq (ks := r) (ms := C.map (fld p.decls)) H V hN hmr (by omega) (by simp [hrl]) (by
     intro m hm
     obtain ⟨c, hc, rfl⟩ := List.mem_map.1 hm
     exact (hCm c hc).2.2)
    have FL := fields_loop (p := p) S hN hCl fun c hc => (hCm c hc).2.1
    rw [g0, g3, mkC] at hB
    simp only [Option.bind_some] at hB
    rw [a2, FL] at hB
    simp only [Option.bind_some] at hB
    rw [o] at hB
    by_cases hta : T v a = e.num
    ·simp [hne, h1', hta] at hB
     have hal := oneM_all (by rw [hB]; exact ht)
     intro k hkm
     rw [hks] at hkm
     rcases List.mem_cons.1 hkm with rfl | hkm
     ·refine nil _ fun hq => ?_
      have hneg : e.num = -1 := by rw [← hta]; exact hq
      rw [hneg] at hCe
      exact h0 (by rw [← hCe]; simp [consL])
     ·obtain ⟨i, hi⟩ := List.mem_iff_getElem?.1 hkm
      have hil := (List.getElem?_eq_some_iff.1 hi).1
      obtain ⟨c, hc, hcm⟩ := at_lt (l := C) (i := i) (by omega)
      refine ⟨fld p.decls c, (hCm c hcm).2.2.1, (hCm c hcm).2.2.2, hal _ (List.mem_iff_getElem?.2 ⟨i, ?_⟩)⟩
      rw [List.getElem?_zipWith, List.getElem?_map, hc, hi]; rfl
    ·simp [hne, h1', hta] at hB; exact absurd hB.symm ht
   ·have h1' : ¬ ((e.kids.length : Int) = 1 + (C.length : Int)) := by omega
    simp [hne, h1'] at hB; exact absurd hB.symm ht
 rw [typeOf_kids H V hN h12 h13 h7 h8] at hB
 by_cases h : (e.kids.map (T v)).any (fun t => decide (t < 0)) = true
 ·rw [if_pos h] at hB; simp at hB; exact absurd hB.symm ht
 ·intro k hk
  refine nil k fun hq => h ?_
  exact List.any_eq_true.2 ⟨T v k, List.mem_map_of_mem hk, by rw [hq]; rfl⟩
end
end RC

