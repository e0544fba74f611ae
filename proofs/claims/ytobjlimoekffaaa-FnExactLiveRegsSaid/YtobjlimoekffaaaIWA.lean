import Derived.Test.YtobjlimoekffaaaGPlainAToIMJ

namespace RC
open Go
def viB (N : Nat) (im : RImage) : Bool := decide (im.procs.length ≤ 4) && ((sigsB im.decls (im.procs.map fun p => (p.params, p.result)) && im.procs.all lentAll) && im.procs.all (procB N im))
theorem spec_validImage_eq {im : RImage} (S : ISmall im) {N : Nat} (hN : 2000000 ≤ N) : spec_validImage N im = some (viB N im) := by
 have hpl := S.pl
 unfold spec_validImage
 rw [spec_sigsOfImage_eq hpl hN]
 simp only [Option.bind_some, len_def]
 rw [spec_validSigs_eq (p := ⟨im.decls, im.procs.map toF⟩) S.decls (by simpa using hpl) (fun f hf => by obtain ⟨q, hq, rfl⟩ := List.mem_map.1 hf; exact S.pp q hq) hN]
 rw [spec_procs_eq S hN, cont_all]
 have e2 : (im.procs.all fun p => lentAll p && procB N im p) = (im.procs.all lentAll && im.procs.all (procB N im)) := by
  induction im.procs with
  | nil => rfl
  | cons x r ih => simp only [List.all_cons, ih]; cases lentAll x <;> cases procB N im x <;> cases r.all lentAll <;> rfl
 have e3 : (List.map (fun f : RFunc => (f.params, f.result)) (List.map toF im.procs)) = im.procs.map fun p => (p.params, p.result) := by
  rw [List.map_map]; rfl
 rw [e2, e3]
 unfold viB
 by_cases h4 : im.procs.length ≤ 4
 ·have h4' : ¬ 4 < (im.procs.length : Int) := by omega
  simp only [h4, h4', decide_true, decide_false, Bool.false_eq_true, if_false, Option.bind_some]
  cases sigsB im.decls (im.procs.map fun p => (p.params, p.result)) <;> cases im.procs.all lentAll <;> cases im.procs.all (procB N im) <;> simp
 ·have h4' : 4 < (im.procs.length : Int) := by omega
  simp [h4, h4']
theorem impl_ValidImage_eq {im : RImage} (S : ISmall im) {N : Nat} (hN : 2000000 ≤ N) : impl_ValidImage N im = some (viB N im) := by
 obtain ⟨b, h1, h2⟩ := ValidImage_both S hN
 have h := spec_validImage_eq S hN
 unfold spec_ValidImage at h1
 rw [h] at h1
 cases h1
 exact h2
theorem allAt_get {α : Type} {f : Nat → α → Bool} : ∀ {l : List α} {k : Nat}, allAt f k l = true → ∀ (i : Nat) x, l[i]? = some x → f (k + i) x = true
 | [], _, _, i, x, h => by simp at h
 | a :: r, k, h, i, x, hi => by
  simp only [allAt, Bool.and_eq_true] at h
  cases i with
  | zero => simp only [List.getElem?_cons_zero, Option.some.injEq] at hi; subst hi; exact h.1
  | succ i =>
   have := allAt_get h.2 i x (by simpa using hi)
   rwa [show k + (i + 1) = k + 1 + i by omega]
def leads (L : Nat) (at_ : Nat) (i : RInstr) : Prop :=
 (i.op = 22 ∨ i.op = 20 → (at_ : Int) < i.num ∧ i.num < (L : Int)) ∧ (i.op = 21 → ∀ j ∈ i.jumps, (at_ : Int) < j ∧ j < (L : Int)) ∧ (i.op ≠ 23 → i.op ≠ 24 → at_ + 1 < L)
structure PV (p : RProc) : Prop where
 r1 : 1 ≤ p.regs
 r2 : p.regs ≤ 2000
 pr : (p.params.length : Int) ≤ p.regs
 c1 : 1 ≤ p.code.length
 c2 : p.code.length ≤ 2000
 leads : ∀ (k : Nat) i, p.code[k]? = some i → leads p.code.length k i
 args : ∀ i ∈ p.code, ∀ a ∈ i.args, 0 ≤ a ∧ a < p.regs
 dst : ∀ i ∈ p.code, 0 ≤ i.dst ∧ i.dst < p.regs
theorem viB_proc {im : RImage} (S : ISmall im) {N : Nat} (hN : 2000000 ≤ N) (h : viB N im = true) {p : RProc} (hp : p ∈ im.procs) : PV p := by
 unfold viB at h
 simp only [Bool.and_eq_true] at h
 have hb := List.all_eq_true.1 h.2.2 p hp
 unfold procB at hb
 simp only [Bool.and_eq_true] at hb
 obtain ⟨hs, hl, ha⟩ := hb
 have hs' := hs
 unfold sizeB at hs'
 simp only [Bool.and_eq_true, decide_eq_true_eq] at hs'
 obtain ⟨s1, s2, s3, s4, s5⟩ := hs'
 have key : ∀ (k : Nat) i, p.code[k]? = some i → (i.args.all (regB p.regs) && preB p i) = true ∧ specMain N im p k i = some true := fun k i hi => by
  have hv := allAt_get ha k i hi
  rw [Nat.zero_add] at hv
  have H := proc_iok S hp hs hi
  unfold instrB at hv
  rw [spec_pre H hN] at hv
  obtain ⟨m, hm, _⟩ := instr_both H hN
  rw [spec_pre H hN] at hm
  cases hc : (i.args.all (regB p.regs) && preB p i) with
  | false => rw [hc] at hv; simp at hv
  | true =>
   rw [hc] at hv hm
   simp only [if_true] at hv hm
   rw [hm] at hv
   refine ⟨rfl, ?_⟩
   rw [hm]
   simpa using hv
 refine ⟨s1, s3, s2, s4, s5, fun k i hi => ?_, fun i hi a ha => ?_, fun i hi => ?_⟩
 ·have hk := (List.getElem?_eq_some_iff.1 hi).1
  obtain ⟨_, hm⟩ := key k i hi
  have ew : Sh.w ((k : Int) + 1) = (k : Int) + 1 := w_id (by omega) (by omega)
  have el : Sh.w (Sh.len p.code - 1) = (p.code.length : Int) - 1 := by rw [len_def]; exact w_id (by omega) (by omega)
  refine ⟨fun ho => ?_, fun ho => ?_, fun h1 h2 => ?_⟩
  ·rcases ho with ho | ho
   ·unfold specMain at hm
    simp only [ho, decide_true, decide_false, if_true, if_false, Bool.false_eq_true, Option.bind_some, inRange_eq, ew, el, reduceCtorEq, Int.reduceEq] at hm
    split at hm
    ·simp only [Option.bind_some, Option.some.injEq, Bool.and_eq_true, decide_eq_true_eq] at hm; omega
    ·cases hm
   ·unfold specMain at hm
    simp only [ho, decide_true, decide_false, if_true, if_false, Bool.false_eq_true, Option.bind_some, inRange_eq, ew, el, reduceCtorEq, Int.reduceEq] at hm
    split at hm
    ·simp only [Option.bind_some, Option.some.injEq, Bool.and_eq_true, decide_eq_true_eq] at hm; omega
    ·cases hm
  ·have H := proc_iok S hp hs hi
   obtain ⟨m, h1, h2⟩ := main_21 H hN ho
   rw [hm] at h2
   simp only [Option.some.injEq] at h2
   have h3 : (i.jumps.all (jmpB k p.code.length)) = true := by cases hj : (i.jumps.all (jmpB k p.code.length)) <;> rw [hj] at h2 <;> simp_all
   intro j hj
   have := List.all_eq_true.1 h3 j hj
   unfold jmpB at this
   simp only [Bool.and_eq_true, decide_eq_true_eq] at this
   exact this
  ·rcases Nat.lt_or_ge (k + 1) p.code.length with h | h
   ·exact h
   ·exfalso
    obtain ⟨c, hc, _, hlb⟩ := last_some hs
    have ek : p.code.length - 1 = k := by omega
    rw [ek, hi] at hc
    cases hc
    rw [hl] at hlb
    simp only [h1, h2, decide_false, Bool.or_self] at hlb
    cases hlb
 ·obtain ⟨k, hk⟩ := List.mem_iff_getElem?.1 hi
  have := (key k i hk).1
  simp only [Bool.and_eq_true] at this
  have := List.all_eq_true.1 this.1 a ha
  unfold regB at this
  simpa using this
 ·obtain ⟨k, hk⟩ := List.mem_iff_getElem?.1 hi
  have := (key k i hk).1
  simp only [Bool.and_eq_true] at this
  have := this.2
  unfold preB at this
  simp only [Bool.and_eq_true, decide_eq_true_eq] at this
  exact this.1.1.1
end RC

