import Derived.Test.YtgcghdgbahfcjaaGreatGPlainAToHMF

namespace RC
open Go
def viB (N : Nat) (im : RImage) : Bool := decide (im.procs.length ≤ 4) && ((sigsB im.decls (im.procs.map fun p => (p.params, p.result)) && im.procs.all lentAll) && im.procs.all (procB N im))
theorem spec_validImage_eq {im : RImage} (S : ISmall im) {N : Nat} (hN : 2000000 ≤ N) : spec_validImage N im = some (viB N im) := by
 have hpl := S.pl
 unfold spec_validImage
 rw [spec_sigsOfImage_eq hpl hN]
 simp only [Option.bind_some, len_def]
 rw [spec_validSigs_eq (p := ⟨im.decls, im.procs.map toF⟩) S.decls (by simpa using hpl) (fun f hf => by obtain ⟨q, hq, rfl⟩ := List.mem_map.1 hf; exact S.pp q hq) hN]
 rw [spec_procs_eq S hN, cont_all]
 have e2 : (im.procs.all fun p => lentAll p && procB N im p) = (im.procs.all lentAll && im.procs.all (procB N im)) := by
  induction im.procs with
  | nil => rfl
  | cons x r ih => simp only [List.all_cons, ih]; cases lentAll x <;> cases procB N im x <;> cases r.all lentAll <;> rfl
 have e3 : (List.map (fun f : RFunc => (f.params, f.result)) (List.map toF im.procs)) = im.procs.map fun p => (p.params, p.result) := by
  rw [List.map_map]; rfl
 rw [e2, e3]
 unfold viB
 by_cases h4 : im.procs.length ≤ 4
 ·have h4' : ¬ 4 < (im.procs.length : Int) := by omega
  simp only [h4, h4', decide_true, decide_false, Bool.false_eq_true, if_false, Option.bind_some]
  cases sigsB im.decls (im.procs.map fun p => (p.params, p.result)) <;> cases im.procs.all lentAll <;> cases im.procs.all (procB N im) <;> simp
 ·have h4' : 4 < (im.procs.length : Int) := by omega
  simp [h4, h4']
end RC

