/- An image: one procedure, then the whole, then the law. -/
import Derived.Test.YtbdefffffmejhaaGPlainAToIMF

namespace RC
open Go

def sizeB (p : RProc) : Bool := decide (1 ≤ p.regs) && (decide ((p.params.length : Int) ≤ p.regs) && (decide (p.regs ≤ 2000) && (decide (1 ≤ p.code.length) && decide (p.code.length ≤ 2000))))
def lastB (p : RProc) : Bool := match p.code[p.code.length - 1]? with | some c => decide (c.op = 23) || decide (c.op = 24) | none => false
def instrB (N : Nat) (im : RImage) (p : RProc) (at_ : Nat) (_ : RInstr) : Bool := (spec_validInstr N im p at_).getD false
def lentAll (p : RProc) : Bool := allAt (lentB p.params p.lent) 0 p.lent

structure ISmall (im : RImage) : Prop where
  decls : DSmall im.decls
  nn : nc im.decls ≤ 1048576
  pl : im.procs.length ≤ 1048576
  pp : ∀ q ∈ im.procs, q.params.length ≤ 1048576
  ll : ∀ q ∈ im.procs, q.lent.length ≤ 1048576
  cl : ∀ q ∈ im.procs, q.code.length ≤ 1048576
  ar : ∀ q ∈ im.procs, ∀ i ∈ q.code, i.args.length ≤ 1048576 ∧ i.jumps.length ≤ 1048576

theorem max_eq (l : List Int) : ∃ m : Int, (if Sh.len l > 1 then Sh.len l else 1) = m ∧ ∀ r : Int, decide (m ≤ r) = (decide (1 ≤ r) && decide ((l.length : Int) ≤ r)) := by
  refine ⟨_, rfl, fun r => ?_⟩
  rw [len_def]
  by_cases h : (l.length : Int) > 1
  · rw [if_pos h]
    by_cases h2 : (l.length : Int) ≤ r
    · have : (1 : Int) ≤ r := by omega
      simp [h2, this]
    · simp [h2]
  · rw [if_neg h]
    by_cases h2 : (1 : Int) ≤ r
    · have : (l.length : Int) ≤ r := by omega
      simp [h2, this]
    · simp [h2]

theorem proc_iok {im : RImage} (S : ISmall im) {p : RProc} (hp : p ∈ im.procs) (hs : sizeB p = true) {at_ : Nat} {i : RInstr} (hi : p.code[at_]? = some i) : IOK im p at_ i := by
  unfold sizeB at hs
  simp only [Bool.and_eq_true, decide_eq_true_eq] at hs
  obtain ⟨a1, a2, a3, a4, a5⟩ := hs
  have ha := S.ar p hp i (List.mem_of_getElem? hi)
  exact ⟨hi, a1, a3, a5, ha.1, ha.2, S.decls.len, S.nn, S.pl, S.pp⟩

theorem last_some {p : RProc} (hs : sizeB p = true) : ∃ c, p.code[p.code.length - 1]? = some c ∧ Sh.get p.code (Sh.w ((p.code.length : Int) - 1)) = some c ∧ lastB p = (decide (c.op = 23) || decide (c.op = 24)) := by
  unfold sizeB at hs
  simp only [Bool.and_eq_true, decide_eq_true_eq] at hs
  obtain ⟨a1, a2, a3, a4, a5⟩ := hs
  obtain ⟨c, hc, _⟩ := at_lt (l := p.code) (i := p.code.length - 1) (by omega)
  refine ⟨c, hc, ?_, ?_⟩
  · rw [w_id (by omega) (by omega), show ((p.code.length : Int) - 1) = ((p.code.length - 1 : Nat) : Int) by omega]
    exact get_lt hc
  · unfold lastB; rw [hc]

theorem spec_validProc_eq {im : RImage} (S : ISmall im) {p : RProc} (hp : p ∈ im.procs) {N : Nat} (hN : 2000000 ≤ N) :
    spec_validProc N im p = some (lentAll p && (sizeB p && (lastB p && allAt (instrB N im p) 0 p.code))) := by
  have b1 := S.pp p hp
  have b2 := S.ll p hp
  have b3 := S.cl p hp
  unfold spec_validProc
  rw [spec_validLent_eq b1 b2 hN]
  obtain ⟨m, hm, hmr⟩ := max_eq p.params
  rw [hm]
  simp only [Option.bind_some, inRange_eq, len_def, hmr]
  have el : allAt (lentB p.params p.lent) 0 p.lent = lentAll p := rfl
  rw [el]
  cases hl : lentAll p with
  | false => simp
  | true =>
    have e1 : (decide ((1 : Int) ≤ (p.code.length : Int)) && decide ((p.code.length : Int) ≤ 2000)) = (decide (1 ≤ p.code.length) && decide (p.code.length ≤ 2000)) := by
      congr 1 <;> exact decide_eq_decide.2 (by omega)
    rw [e1]
    by_cases hs : sizeB p = true
    · have hs' := hs
      unfold sizeB at hs
      simp only [Bool.and_eq_true, decide_eq_true_eq] at hs
      obtain ⟨a1, a2, a3, a4, a5⟩ := hs
      obtain ⟨c, hc, hg, hla⟩ := last_some hs'
      rw [all_loop (l := p.code) (spec_validProc_L1 N im p) (instrB N im p) (fun n => by rw [spec_validProc_L1, if_neg (by simp [len_def])]) (fun n i x hx => ?_) (by omega), cont_all, hg, hla, hs']
      · simp only [a1, a2, a3, a4, a5, decide_true, Bool.and_self, Bool.not_true, Option.bind_some, Bool.false_eq_true, if_false]
        cases allAt (instrB N im p) 0 p.code <;> by_cases h23 : c.op = 23 <;> by_cases h24 : c.op = 24 <;> simp [h23, h24]
      · have hi := (List.getElem?_eq_some_iff.1 hx).1
        obtain ⟨b, g1, g2⟩ := instr_both (proc_iok S hp hs' hx) hN
        rw [spec_validProc_L1, if_pos (by simp [len_def]; omega), g1]
        simp only [Option.bind_some]
        have : instrB N im p i x = b := by unfold instrB; rw [g1]; rfl
        rw [this, w_id (by omega) (by omega)]
        cases b <;> simp
    · have hs' : sizeB p = false := by cases h : sizeB p with | true => exact absurd h hs | false => rfl
      rw [hs']
      unfold sizeB at hs'
      revert hs'
      cases decide (1 ≤ p.regs) <;> cases decide ((p.params.length : Int) ≤ p.regs) <;> cases decide (p.regs ≤ 2000) <;> cases decide (1 ≤ p.code.length) <;> cases decide (p.code.length ≤ 2000) <;> simp

def procB (N : Nat) (im : RImage) (p : RProc) : Bool := sizeB p && (lastB p && allAt (instrB N im p) 0 p.code)

theorem impl_procs_eq {im : RImage} (S : ISmall im) {b : Bool} {N : Nat} (hN : 2000000 ≤ N) :
    impl_ValidImage_L1 N im (⟨im.decls, im.procs.map toS⟩, b) N 0 = some (if (im.procs.all (procB N im)) = true then .inr () else .inl false) := by
  have hpl := S.pl
  rw [← allAt_all _ 0]
  refine all_loop (l := im.procs) (impl_ValidImage_L1 N im (⟨im.decls, im.procs.map toS⟩, b)) (fun _ p => procB N im p) (fun n => by rw [impl_ValidImage_L1, if_neg (by simp [len_def])]) (fun n i p hp => ?_) (by omega)
  have hi := (List.getElem?_eq_some_iff.1 hp).1
  have hm := List.mem_of_getElem? hp
  rw [impl_ValidImage_L1, if_pos (by simp [len_def]; omega), get_lt hp]
  obtain ⟨m, hmx, hmr⟩ := max_eq p.params
  have hmr := hmr p.regs
  simp only [Option.bind_some]
  rw [hmx]
  simp only [len_def]
  have e0 : (Sh.w ((i : Int) + 1)) = ((i + 1 : Nat) : Int) := by rw [w_id (by omega) (by omega)]; omega
  rw [e0]
  by_cases hs : sizeB p = true
  · have hs' := hs
    unfold sizeB at hs
    simp only [Bool.and_eq_true, decide_eq_true_eq] at hs
    obtain ⟨a1, a2, a3, a4, a5⟩ := hs
    obtain ⟨c, hc, hg, hla⟩ := last_some hs'
    have m0 : ¬ p.regs < m := by
      rw [decide_eq_true a1, decide_eq_true a2] at hmr
      have := of_decide_eq_true hmr
      omega
    have m1 : ¬ 2000 < p.regs := by omega
    have m2 : ¬ (p.code.length : Int) < 1 := by omega
    have m3 : ¬ 2000 < (p.code.length : Int) := by omega
    rw [hg, all_loop (l := p.code) (impl_ValidImage_L2 N p (⟨im.decls, im.procs.map toS⟩, b)) (instrB N im p) (fun n => by rw [impl_ValidImage_L2, if_neg (by simp [len_def])]) (fun n i x hx => ?_) (by omega), cont_all]
    · simp only [m0, m1, m2, m3, decide_false, Bool.false_eq_true, if_false, Option.bind_some]
      unfold procB
      rw [hs', hla]
      cases allAt (instrB N im p) 0 p.code <;> by_cases h23 : c.op = 23 <;> by_cases h24 : c.op = 24 <;> simp [h23, h24]
    · have hi := (List.getElem?_eq_some_iff.1 hx).1
      obtain ⟨b, g1, g2⟩ := instr_both (proc_iok S hm hs' hx) hN
      rw [impl_ValidImage_L2, if_pos (by simp [len_def]; omega), get_lt hx]
      simp only [Option.bind_some]
      unfold sgOf at g2
      rw [g2]
      have : instrB N im p i x = b := by unfold instrB; rw [g1]; rfl
      simp only [Option.bind_some]
      rw [this, w_id (by omega) (by omega)]
      cases b <;> simp
  · have hs' : sizeB p = false := by cases h : sizeB p with | true => exact absurd h hs | false => rfl
    have hf : procB N im p = false := by unfold procB; rw [hs']; rfl
    rw [hf]
    simp only [Bool.false_eq_true, if_false]
    by_cases m0 : p.regs < m
    · simp only [m0, decide_true, if_true, Option.bind_some]
    · by_cases m1 : 2000 < p.regs
      · simp only [m0, m1, decide_true, decide_false, Bool.false_eq_true, if_true, if_false, Option.bind_some]
      · by_cases m2 : (p.code.length : Int) < 1
        · simp only [m0, m1, m2, decide_true, decide_false, Bool.false_eq_true, if_true, if_false, Option.bind_some]
        · by_cases m3 : 2000 < (p.code.length : Int)
          · simp only [m0, m1, m2, m3, decide_true, decide_false, Bool.false_eq_true, if_true, if_false, Option.bind_some]
          · exfalso
            refine hs ?_
            unfold sizeB
            simp only [Bool.and_eq_true, decide_eq_true_eq]
            rw [decide_eq_true (by omega : m ≤ p.regs)] at hmr
            have hmr := hmr.symm
            simp only [Bool.and_eq_true, decide_eq_true_eq] at hmr
            omega

theorem spec_procs_eq {im : RImage} (S : ISmall im) {N : Nat} (hN : 2000000 ≤ N) :
    spec_validImage_L1 N im N 0 = some (if (im.procs.all fun p => lentAll p && procB N im p) = true then .inr () else .inl false) := by
  have hpl := S.pl
  rw [← allAt_all _ 0]
  refine all_loop (l := im.procs) (spec_validImage_L1 N im) (fun _ p => lentAll p && procB N im p) (fun n => by rw [spec_validImage_L1, if_neg (by simp [len_def])]) (fun n i p hp => ?_) (by omega)
  have hi := (List.getElem?_eq_some_iff.1 hp).1
  rw [spec_validImage_L1, if_pos (by simp [len_def]; omega), get_lt hp]
  simp only [Option.bind_some]
  rw [spec_validProc_eq S (List.mem_of_getElem? hp) hN]
  simp only [Option.bind_some]
  have e0 : (Sh.w ((i : Int) + 1)) = ((i + 1 : Nat) : Int) := by rw [w_id (by omega) (by omega)]; omega
  have e1 : (lentAll p && (sizeB p && (lastB p && allAt (instrB N im p) 0 p.code))) = (lentAll p && procB N im p) := rfl
  rw [e0, e1]
  cases (lentAll p && procB N im p) <;> simp

theorem ValidImage_both {im : RImage} (S : ISmall im) {N : Nat} (hN : 2000000 ≤ N) : ∃ b, spec_ValidImage N im = some b ∧ impl_ValidImage N im = some b := by
  have hpl := S.pl
  refine ⟨decide (im.procs.length ≤ 4) && ((sigsB im.decls (im.procs.map fun p => (p.params, p.result)) && im.procs.all lentAll) && im.procs.all (procB N im)), ?_, ?_⟩
  · unfold spec_ValidImage spec_validImage
    rw [spec_sigsOfImage_eq hpl hN]
    simp only [Option.bind_some, len_def]
    rw [spec_validSigs_eq (p := ⟨im.decls, im.procs.map toF⟩) S.decls (by simpa using hpl) (fun f hf => by obtain ⟨q, hq, rfl⟩ := List.mem_map.1 hf; exact S.pp q hq) hN]
    rw [spec_procs_eq S hN, cont_all]
    have e2 : (im.procs.all fun p => lentAll p && procB N im p) = (im.procs.all lentAll && im.procs.all (procB N im)) := by
      induction im.procs with
      | nil => rfl
      | cons x r ih => simp only [List.all_cons, ih]; cases lentAll x <;> cases procB N im x <;> cases r.all lentAll <;> rfl
    have e3 : (List.map (fun f : RFunc => (f.params, f.result)) (List.map toF im.procs)) = im.procs.map fun p => (p.params, p.result) := by
      rw [List.map_map]; rfl
    rw [e2, e3]
    by_cases h4 : im.procs.length ≤ 4
    · have h4' : ¬ 4 < (im.procs.length : Int) := by omega
      simp only [h4, h4', decide_true, decide_false, Bool.false_eq_true, if_false, Option.bind_some]
      cases sigsB im.decls (im.procs.map fun p => (p.params, p.result)) <;> cases im.procs.all lentAll <;> cases im.procs.all (procB N im) <;> simp
    · have h4' : 4 < (im.procs.length : Int) := by omega
      simp [h4, h4']
  · unfold impl_ValidImage impl_imageSigs
    rw [len_def]
    by_cases h4 : im.procs.length ≤ 4
    · have h4' : ¬ 4 < (im.procs.length : Int) := by omega
      simp only [h4, h4', decide_true, decide_false, Bool.false_eq_true, if_false]
      rw [impl_sigs_list hpl hN]
      simp only [Option.bind_some]
      rw [impl_validSigs_eq S.decls (by simpa using hpl) (fun f hf => by obtain ⟨q, hq, rfl⟩ := List.mem_map.1 hf; exact ⟨S.pp q hq, S.ll q hq⟩) hN]
      simp only [Option.bind_some]
      rw [impl_procs_eq S hN, cont_all]
      have e3 : (List.map (fun f : RSignature => (f.params, f.result)) (List.map toS im.procs)) = im.procs.map fun p => (p.params, p.result) := by
        rw [List.map_map]; rfl
      have e4 : ((List.map toS im.procs).all fun f => allAt (lentB f.params f.lent) 0 f.lent) = im.procs.all lentAll := by
        rw [List.all_map]; rfl
      rw [e3, e4]
      cases sigsB im.decls (im.procs.map fun p => (p.params, p.result)) <;> cases im.procs.all lentAll <;> cases im.procs.all (procB N im) <;> simp
    · have h4' : 4 < (im.procs.length : Int) := by omega
      simp [h4, h4']

theorem nc_le (D : List RDecl) : nc D ≤ (D.map dz).sum := by
  unfold nc
  induction D with
  | nil => exact Nat.le_refl _
  | cons d r ih => simp only [List.map_cons, List.sum_cons]; unfold dz at *; omega

theorem small_of {im : RImage} (h : imz im ≤ 1048576) : ISmall im := by
  unfold imz at h
  have hn := nc_le im.decls
  have hd : ∀ d ∈ im.decls, dz d ≤ 1048576 := fun d hd => by have := mem_sum dz hd; omega
  have hp : ∀ p ∈ im.procs, pz p ≤ 1048576 := fun p hp => by have := mem_sum pz hp; omega
  refine ⟨⟨by omega, fun d hm => ?_, fun d hm c hc => ?_⟩, by omega, by omega, fun p hm => ?_, fun p hm => ?_, fun p hm => ?_, fun p hm i hi => ?_⟩
  · have := hd d hm; unfold dz at this; omega
  · have := hd d hm; unfold dz at this
    have := mem_sum cz hc
    show cz c ≤ _
    omega
  · have := hp p hm; unfold pz at this; omega
  · have := hp p hm; unfold pz at this; omega
  · have := hp p hm; unfold pz at this; omega
  · have := hp p hm; unfold pz at this
    have := mem_sum iz hi
    have e : iz i = i.args.length + i.jumps.length := rfl
    omega

theorem FnExactValidImage_plain {x : RImage} (H : RImageIn x) : laws_FnExactValidImage 2000000 x = some true := by
  have hN : (2000000 : Nat) ≤ 2000000 := Nat.le_refl _
  unfold laws_FnExactValidImage
  rw [szImage_eq H (by omega) (by omega) hN]
  simp only [Option.bind_some]
  by_cases h : (1048576 : Int) - (imz x : Int) < 0
  · rw [lft_neg h]; rfl
  · rw [lft_pos h]
    have hz : imz x ≤ 1048576 := by omega
    have S := small_of hz
    obtain ⟨b, h1, h2⟩ := ValidImage_both S hN
    rw [if_neg (by simpa using h), toImage_eq hz hN]
    simp only [Option.bind_some]
    rw [h1, h2]
    simp only [Option.bind_some]
    rw [eqImage_eq hz hN]
    cases b <;> rfl
end RC
