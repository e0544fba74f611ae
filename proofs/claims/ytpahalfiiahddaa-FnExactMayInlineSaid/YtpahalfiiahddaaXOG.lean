import Derived.Test.YtpahalfiiahddaaXOF

namespace RC
open Go
theorem numsL_ex {x : Int} : ∀ {l : List RExpr}, x ∈ numsL l → ∃ k ∈ l, x ∈ nums k
 | [], h => by cases h
 | a :: r, h => by
  simp only [numsL, List.mem_append] at h
  rcases h with h | h
  ·exact ⟨a, by simp, h⟩
  ·obtain ⟨k, hk, hx⟩ := numsL_ex h
   exact ⟨k, by simp [hk], hx⟩
def TT (p : RProgram) (N : Nat) (T : List Int → RExpr → Int) : Prop := ∀ (v : List Int) (e : RExpr), RExprIn e → en e < 31 → v.length + 3 * en e ≤ 1000 → (∀ x ∈ v, tyB p.decls x = true) →
  ∀ n1 n2, 31 ≤ n1 → 31 ≤ n2 → spec_typeOf_F N n1 p v e = some (T v e) ∧ impl_signatures_typeOf_F N n2 v (sgP p) e = some (T v e) ∧ (T v e = -1 ∨ tyB p.decls (T v e) = true)
theorem nums_in {p : RProgram} (S : SigOK p.decls p.funcs) {N : Nat} (hN : 2000000 ≤ N) {T : List Int → RExpr → Int} (hT : TT p N T) : ∀ (n : Nat) (e : RExpr) (v : List Int), en e ≤ n → n ≤ 30 → VOK p e v → T v e ≠ -1 → InF p.funcs.length (nums e) := by
 intro n
 induction n with
 | zero => intro e _ h; have := en_pos e; omega
 | succ n ih =>
  intro e v he hn V ht x hx
  have H : TOK p (sgP p) (spec_typeOf_F N 31) (impl_signatures_typeOf_F N 31) T (en e) := fun v e a b c d => hT v e a (by omega) c d 31 31 (Nat.le_refl _) (Nat.le_refl _)
  obtain ⟨q1, q2, _⟩ := hT v e V.inn (by omega) V.len V.tys 32 32 (by omega) (by omega)
  rw [spec_typeOf_F] at q1
  rw [impl_signatures_typeOf_F] at q2
  rw [nums_eq, List.mem_append] at hx
  rcases hx with hx | hx
  ·unfold num1 at hx
   by_cases h : e.op = 9 ∨ e.op = 10
   ·rw [if_pos h] at hx
    have : x = e.num := by simpa using hx
    rw [this]
    exact num_ok S q1 ht h
   ·rw [if_neg h] at hx; cases hx
  ·obtain ⟨k, hk, hxk⟩ := numsL_ex hx
   have hke := en_kid hk
   obtain ⟨m, m1, m2, m3⟩ := kids_ok H V S hN q2 ht k hk
   exact ih k (v ++ m) (by omega) (by omega) ⟨V.more hk m1, V.tys2 m2, by omega, V.inn.kids k hk⟩ m3 x hxk
theorem valid_PO {p : RProgram} (S : PSmall p) {N : Nat} (hN : 2000000 ≤ N) (hv : spec_validProgram N p = some true) : PO p p.funcs.length := by
 obtain ⟨b, h1, _, h3⟩ := ValidProgram_both S hN
 rw [hv] at h1; cases h1
 obtain ⟨SO, hen⟩ := h3 rfl
 obtain ⟨T, hT⟩ := typeOf_F SO hN 31
 have hl := S.flen
 refine ⟨rfl, SO.flen, hen, fun f hf => ?_⟩
 obtain ⟨q1, q2, q3⟩ := SO.funs f hf
 have he := hen f hf
 have V : VOK p f.body f.params := ⟨by omega, q2, by omega, (S.fin hf).body⟩
 have L1 := all_loop (l := p.funcs) (spec_validProgram_L1 N p) (fun _ f => bodyB p T f) (fun n => by rw [spec_validProgram_L1, if_neg (by simp [len_def])]) (fun n i f hi => by
  have hil := (List.getElem?_eq_some_iff.1 hi).1
  have hf := List.mem_of_getElem? hi
  obtain ⟨q1, q2, q3⟩ := SO.funs f hf
  have he := hen f hf
  have ty : spec_typeOf N p f.params f.body = some (T f.params f.body) := (hT f.params f.body (S.fin hf).body (by omega) (by omega) q2 N N (by omega) (by omega)).1
  rw [spec_validProgram_L1, if_pos (by simp [len_def]; omega), get_lt hi]
  simp only [Option.bind_some]
  rw [spec_nodesOf_eq (S.fz hf).2 hN, w_id (by omega) (by omega), show ((i : Int) + 1) = ((i + 1 : Nat) : Int) by omega]
  simp only [Option.bind_some]
  unfold bodyB
  rw [if_pos he, if_neg (by simp), ty]
  by_cases hr : T f.params f.body = f.result <;> simp [he, hr]) (by omega : p.funcs.length < N)
 rw [allAt_all] at L1
 have hs : p.funcs.all (bodyB p T) = true := by
  unfold spec_validProgram at hv
  rw [spec_sigs S hN] at hv
  simp only [Option.bind_some] at hv
  cases hsg : sigsP p with
  | false => rw [hsg] at hv; simp at hv
  | true =>
   rw [hsg] at hv
   simp only [Bool.not_true, Bool.false_eq_true, if_false] at hv
   rw [L1, cont_all] at hv
   cases hb : p.funcs.all (bodyB p T) with
   | true => rfl
   | false => rw [hb] at hv; simp at hv
 have hb := List.all_eq_true.1 hs f hf
 unfold bodyB at hb
 simp only [Bool.and_eq_true, decide_eq_true_eq] at hb
 exact nums_in SO hN hT 30 f.body f.params he (Nat.le_refl _) V (by rw [hb.2]; have := (tyB_nn q3).1; omega)
theorem MayInline_both {p : RProgram} (S : PSmall p) {f : Int} {N : Nat} (hN : 2000000 ≤ N) : ∃ b, spec_MayInline N p f = some b ∧ impl_MayInline N p f = some b := by
 obtain ⟨b, h1, h2, _⟩ := ValidProgram_both S hN
 cases b with
 | true => exact MayInline_of (valid_PO S hN h1) hN h1 h2
 | false =>
  unfold spec_MayInline impl_MayInline
  rw [h1, h2]
  exact ⟨false, by simp, by simp⟩
theorem FnExactMayInline_plain {p : RProgram} (H : RProgramIn p) {f : Int} (hf : I64 f) : laws_FnExactMayInline 2000000 p f = some true := by
 have hN : (2000000 : Nat) ≤ 2000000 := Nat.le_refl _
 unfold laws_FnExactMayInline
 rw [szProgram_eq H (by omega) (by omega) hN]
 simp only [Option.bind_some]
 by_cases h : (1048576 : Int) - (pgz p : Int) < 0
 ·rw [lft_neg h]; rfl
 ·rw [lft_pos h, if_neg (by simpa using h)]
  have hz : pgz p ≤ 1048576 := by omega
  obtain ⟨b, h1, h2⟩ := MayInline_both (p := p) ⟨H, hz⟩ (f := f) hN
  rw [toProgram_eq hz hN]
  simp only [Option.bind_some]
  rw [h1, h2]
  simp only [Option.bind_some]
  rw [eqProgram_eq hz hN]
  simp
end RC

