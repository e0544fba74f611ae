import Derived.Test.YtgcghdgbahfcjaaGreatIVC

namespace RC
open Go
theorem allAt_iff {α : Type} {g : Nat → α → Bool} : ∀ (l : List α) (k : Nat), allAt g k l = true ↔ ∀ (i : Nat) x, l[i]? = some x → g (k + i) x = true
 | [], k => by simp [allAt]
 | y :: r, k => by
  rw [allAt, Bool.and_eq_true, allAt_iff r (k + 1)]
  constructor
  ·rintro ⟨a, b⟩ i x h
   cases i with
   | zero => simp at h; subst h; exact a
   | succ i => have := b i x (by simpa using h); rw [show k + (i + 1) = k + 1 + i by omega]; exact this
  ·intro h
   exact ⟨h 0 y rfl, fun i x hx => by have := h (i + 1) x (by simpa using hx); rw [show k + 1 + i = k + (i + 1) by omega]; exact this⟩
def regI (f : RFrame) (r : Nat) : Bool := (intW (at0 f.regs r) || decide (1000 ≤ at0 f.regs r)) && (decide (0 ≤ at0 f.own r) && decide (at0 f.own r ≤ 999999))
def lvB (h : List Cell) (f : RFrame) (r : Nat) : Bool := !decide (0 < at0 f.own r) || liveW h (at0 f.regs r)
def kept (h : List Cell) (w : Int) : Bool := decide (1000 ≤ w) && (match h[(w - 1000).toNat]? with | some c => decide (c.count < 0) | none => false)
def hdB (h : List Cell) (f : RFrame) (r : Nat) : Bool := decide (at0 f.held r = 0) || kept h (at0 f.held r)
def allR (n : Nat) (p : Nat → Bool) : Bool := (List.range n).all p
theorem allR_iff {n : Nat} {p : Nat → Bool} : allR n p = true ↔ ∀ j, j < n → p j = true := by
 unfold allR; rw [List.all_eq_true]; exact ⟨fun h j hj => h j (List.mem_range.2 hj), fun h j hj => h j (List.mem_range.1 hj)⟩
theorem allR_false {n : Nat} {p : Nat → Bool} (h : ∃ j, j < n ∧ p j = false) : allR n p = false := by
 obtain ⟨j, hj, ho⟩ := h
 cases e : allR n p with
 | false => rfl
 | true => rw [allR_iff.1 e j hj] at ho; cases ho
theorem allR_all {α : Type} (l : List α) (p : Nat → Bool) : allAt (fun i _ => p i) 0 l = allR l.length p := by
 cases h : allR l.length p with
 | true =>
  exact (allAt_iff l 0).2 fun i x hx => by rw [Nat.zero_add]; exact allR_iff.1 h i (List.getElem?_eq_some_iff.1 hx).1
 | false =>
  cases g : allAt (fun i _ => p i) 0 l with
  | false => rfl
  | true =>
   have : allR l.length p = true := allR_iff.2 fun j hj => by
    obtain ⟨x, hx, _⟩ := at_lt hj
    have := (allAt_iff l 0).1 g j x hx
    rwa [Nat.zero_add] at this
   rw [h] at this; cases this
theorem at0_eq {l : List Int} {i : Nat} {x : Int} (h : l[i]? = some x) : at0 l i = x := by unfold at0; rw [h]; rfl
def JO (A i : Nat) (F : Nat → Int) : Prop := ∀ j, 0 ≤ F j ∧ F j ≤ (A : Int) + 999999 * (i : Int)
theorem osr_J {f : RFrame} {A i : Nat} {F : Nat → Int} (hr : regI f i = true) (h : JO A i F) : JO A (i + 1) (osr f i F) := fun j => by
 have := h j
 unfold regI at hr
 simp only [Bool.and_eq_true, decide_eq_true_eq] at hr
 unfold osr
 split <;> omega
theorem live_in {h : List Cell} {w : Int} (hl : liveW h w = true) : 1000 ≤ w ∧ w - 1000 < (h.length : Int) := by
 obtain ⟨i, c, h1, _, h2, _⟩ := liveW_spec hl
 omega
theorem own_step {n : Nat} {f : RFrame} {h : List Cell} (hn : h.length = n) {i A : Nat} {F : Nat → Int} (hA : A ≤ 1048577000000) (hr : regI f i = true) (hv : lvB h f i = true) (hJ : JO A i F) (hi : i ≤ 1048576) (ho : 0 < at0 f.own i) :
  1000 ≤ at0 f.regs i ∧ at0 f.regs i - 1000 < (n : Int) ∧ Sh.get (rowOf n F) (at0 f.regs i - 1000) = some (F (at0 f.regs i - 1000).toNat) ∧
  Sh.put (rowOf n F) (at0 f.regs i - 1000) (Sh.w (F (at0 f.regs i - 1000).toNat + at0 f.own i)) = rowOf n (osr f i F) := by
 unfold lvB at hv
 simp only [ho, decide_true, Bool.not_true, Bool.false_or] at hv
 obtain ⟨h1, h2⟩ := live_in hv
 rw [hn] at h2
 refine ⟨h1, h2, row_get h1 h2, ?_⟩
 rw [row_put h1]
 refine rowOf_congr fun j _ => ?_
 have hb := hJ (at0 f.regs i - 1000).toNat
 unfold regI at hr
 simp only [Bool.and_eq_true, decide_eq_true_eq] at hr
 unfold osr
 rw [w_id (by omega) (by omega)]
 by_cases hj : (j : Int) + 1000 = at0 f.regs i
 ·rw [if_pos hj, if_pos ⟨ho, hj⟩, show (at0 f.regs i - 1000).toNat = j by omega]
 ·rw [if_neg hj, if_neg fun h => hj h.2]
theorem own_L2 {f : RFrame} {h : List Cell} (hh : h.length ≤ 1048576) (hz : fz f ≤ 1048576) (hin : RFrameIn f) (hlen : f.own.length = f.regs.length) (hr : allR f.regs.length (regI f) = true) (hv : allR f.regs.length (lvB h f) = true) {A : Nat} (hA : A ≤ 1048577000000)
  {N : Nat} (hN : 2000000 ≤ N) {F : Nat → Int} (hJ : JO A 0 F) :
  spec_ownersOf_L2 f N 0 (rowOf h.length F) = some (rowOf h.length (ownF f F)) ∧ JO A f.own.length (ownF f F) := by
 have hzl : f.own.length ≤ 1048576 := by unfold RC.fz at hz; omega
 have stp : ∀ n i F, i < f.own.length → JO A i F → ((fun _ => true) i = true → JO A (i + 1) (osr f i F) ∧ spec_ownersOf_L2 f (n + 1) (i : Int) (rowOf h.length F) = spec_ownersOf_L2 f n ((i + 1 : Nat) : Int) (rowOf h.length (osr f i F))) ∧ ((fun _ : Nat => true) i = false → ∃ e, False ∧ spec_ownersOf_L2 f (n + 1) (i : Int) (rowOf h.length F) = some e) := by
  intro n i F hi hJ
  have hri := allR_iff.1 hr i (by omega)
  have hvi := allR_iff.1 hv i (by omega)
  refine ⟨fun _ => ⟨osr_J hri hJ, ?_⟩, fun h => by cases h⟩
  obtain ⟨w1, w2⟩ := hin.regs.1 _ (at0_mem (l := f.regs) (r := i) (by omega))
  have e0 : (Sh.w ((i : Int) + 1)) = ((i + 1 : Nat) : Int) := by rw [w_id (by omega) (by omega)]; omega
  rw [spec_ownersOf_L2, if_pos (by simp [len_def]; omega), at0_get hi, at0_get (by omega), e0]
  simp only [Option.bind_some]
  by_cases ho : 0 < at0 f.own i
  ·obtain ⟨h1, h2, g1, g2⟩ := own_step rfl hA hri hvi hJ (by omega) ho
   rw [w_id (by omega) (by omega), g1]
   simp only [ho, decide_true, if_true, Option.bind_some]
   rw [g2]
  ·have e : osr f i F = F := by funext j; unfold osr; rw [if_neg fun h => ho h.1]
   simp [ho, e]
 rcases cnt_loop (τ := Nat → Int) f.own.length (spec_ownersOf_L2 f) (fun r => r) (rowOf h.length) (fun _ => true) (osr f) (JO A) (fun _ => False)
  (fun n r => by rw [spec_ownersOf_L2, if_neg (by simp [len_def])]) stp (by omega : f.own.length < N) hJ with ⟨a, b, c⟩ | ⟨_, e, he, _⟩
 ·exact ⟨b, c⟩
 ·cases he
def prA (im : RImage) (f : RFrame) : RProc := (im.procs[f.proc.toNat]?).getD ⟨[], [], 0, 0, []⟩
def lensB (p : RProc) (f : RFrame) : Bool := decide (0 ≤ f.at_) && (decide (f.at_ < (p.code.length : Int)) && (decide ((f.regs.length : Int) = p.regs) && (decide ((f.own.length : Int) = p.regs) && decide ((f.held.length : Int) = p.regs))))
def procOK (im : RImage) (f : RFrame) : Bool := decide (0 ≤ f.proc) && decide (f.proc < (im.procs.length : Int))
def fvB (im : RImage) (f : RFrame) : Bool := procOK im f && (lensB (prA im f) f && allR f.regs.length (regI f))
def dstB (s : RState) (k : Nat) : Bool :=
 if k = 0 then decide ((frA s k).dst = 0) else decide (0 ≤ (frA s k).dst) && (decide ((frA s k).dst < ((frA s (k - 1)).own.length : Int)) && decide (at0 (frA s (k - 1)).own (frA s k).dst.toNat = 0))
theorem proc_get {im : RImage} {f : RFrame} (h : procOK im f = true) : Sh.get im.procs f.proc = some (prA im f) ∧ prA im f ∈ im.procs := by
 unfold procOK at h
 simp only [Bool.and_eq_true, decide_eq_true_eq] at h
 obtain ⟨q, hq⟩ := Int.eq_ofNat_of_zero_le h.1
 obtain ⟨x, hx, hm⟩ := at_lt (l := im.procs) (i := q) (by omega)
 have : prA im f = x := by unfold prA; rw [show f.proc.toNat = q by omega, hx]; rfl
 rw [this, hq]
 exact ⟨get_lt hx, hm⟩
theorem lens_of {im : RImage} {f : RFrame} (h : fvB im f = true) : f.own.length = f.regs.length ∧ f.held.length = f.regs.length ∧ allR f.regs.length (regI f) = true := by
 unfold fvB lensB at h
 simp only [Bool.and_eq_true, decide_eq_true_eq] at h
 obtain ⟨_, ⟨_, _, a, b, c⟩, d⟩ := h
 exact ⟨by omega, by omega, d⟩
theorem impl_frame_eq {im : RImage} (S : ISmall im) {f : RFrame} (hz : fz f ≤ 1048576) {N : Nat} (hN : 2000000 ≤ N) : impl_frameValid N im f = some (fvB im f) := by
 unfold RC.fz at hz
 unfold impl_frameValid fvB
 cases hp : procOK im f with
 | false =>
  unfold procOK at hp
  simp only [Bool.and_eq_false_iff, decide_eq_false_iff_not] at hp
  rw [len_def]
  by_cases h1 : f.proc < 0
  ·simp [h1]
  ·have h2 : (im.procs.length : Int) ≤ f.proc := by rcases hp with hp | hp <;> omega
   simp [h1, h2]
 | true =>
  obtain ⟨g1, g2⟩ := proc_get hp
  unfold procOK at hp
  simp only [Bool.and_eq_true, decide_eq_true_eq] at hp
  have h1 : ¬ f.proc < 0 := by omega
  have h2 : ¬ (im.procs.length : Int) ≤ f.proc := by omega
  rw [g1]
  generalize prA im f = p
  simp only [len_def, h1, h2, decide_false, Bool.false_eq_true, if_false, Option.bind_some, Bool.true_and]
  unfold lensB
  by_cases a1 : f.at_ < 0
  ·have : ¬ 0 ≤ f.at_ := by omega
   simp [a1, this]
  ·have a1' : 0 ≤ f.at_ := by omega
   by_cases a2 : (p.code.length : Int) ≤ f.at_
   ·have : ¬ f.at_ < (p.code.length : Int) := by omega
    simp [a1, a2, this]
   ·have a2' : f.at_ < (p.code.length : Int) := by omega
    by_cases a3 : (f.regs.length : Int) = p.regs
    ·by_cases a4 : (f.own.length : Int) = p.regs
     ·by_cases a5 : (f.held.length : Int) = p.regs
      ·rw [all_loop (l := f.regs) (impl_frameValid_L1 f) (fun i _ => regI f i) (fun n => by rw [impl_frameValid_L1, if_neg (by simp [len_def])]) (fun n i x hx => ?_) (by omega), cont_all, allR_all]
       ·cases allR f.regs.length (regI f) <;> simp [a1, a1', a2, a2', a3, a4, a5]
       ·have hi := (List.getElem?_eq_some_iff.1 hx).1
        rw [impl_frameValid_L1, if_pos (by simp [len_def]; omega), get_lt hx, at0_get (by omega), w_id (by omega) (by omega), show ((i : Int) + 1) = ((i + 1 : Nat) : Int) by omega]
        simp only [Option.bind_some, isInt_eq]
        unfold regI
        rw [at0_eq hx]
        generalize at0 f.own i = o
        by_cases o1 : o < 0
        ·have o1' : ¬ 0 ≤ o := by omega
         cases intW x <;> by_cases x1 : x < 1000 <;> simp [o1, o1', x1]
        ·have o1' : 0 ≤ o := by omega
         by_cases o2 : 999999 < o
         ·have o2' : ¬ o ≤ 999999 := by omega
          cases intW x <;> by_cases x1 : x < 1000 <;> simp [o1, o2, o2', x1]
         ·have o2' : o ≤ 999999 := by omega
          by_cases x1 : x < 1000
          ·have x1' : ¬ 1000 ≤ x := by omega
           cases intW x <;> simp [o1, o1', o2, o2', x1, x1']
          ·have x1' : 1000 ≤ x := by omega
           cases intW x <;> simp [o1, o1', o2, o2', x1, x1']
      ·simp [a1, a2, a3, a4, a5]
     ·simp [a1, a2, a3, a4]
    ·simp [a1, a2, a3]
theorem spec_frame_eq {im : RImage} (S : ISmall im) {s : RState} (Q : SOK s) {k : Nat} (hk : k < s.frames.length) {N : Nat} (hN : 2000000 ≤ N) :
  spec_validFrame N im s k = some (fvB im (frA s k) && (allR (frA s k).regs.length (lvB s.heap (frA s k)) && dstB s k)) := by
 have hpl := S.pl
 have hfl := Q.fl
 have hhl := Q.hp.len
 obtain ⟨g1, g2, g3⟩ := frA_get hk
 have hz := Q.fz g2
 have hin := Q.fin g2
 have hdst : (if (decide ((k : Int) = 0)) = true then some (decide ((frA s k).dst = 0)) else Option.bind (Option.bind (Sh.get s.frames (Sh.w ((k : Int) - 1))) fun c26 => Option.bind (spec_inRange (frA s k).dst 0 (Sh.w ((Sh.len c26.own) - 1))) fun q27 => if q27 = true then Option.bind (Sh.get c26.own (frA s k).dst) fun c29 => some (decide (c29 = 0)) else some false) fun t24 => some t24) = some (dstB s k) := by
  unfold dstB
  by_cases h0 : k = 0
  ·have : (k : Int) = 0 := by omega
   simp [h0]
  ·have h0' : ¬ (k : Int) = 0 := by omega
   have e1 : Sh.w ((k : Int) - 1) = ((k - 1 : Nat) : Int) := by rw [w_id (by omega) (by omega)]; omega
   obtain ⟨b1, b2, b3⟩ := frA_get (s := s) (i := k - 1) (by omega)
   have hz2 := Q.fz b2
   unfold RC.fz at hz2
   rw [e1, b1, if_neg (by simpa using h0'), if_neg h0]
   simp only [Option.bind_some, inRange_eq, len_def]
   have e2 : Sh.w (((frA s (k - 1)).own.length : Int) - 1) = ((frA s (k - 1)).own.length : Int) - 1 := w_id (by omega) (by omega)
   rw [e2]
   by_cases d1 : 0 ≤ (frA s k).dst
   ·by_cases d2 : (frA s k).dst < ((frA s (k - 1)).own.length : Int)
    ·have d2' : (frA s k).dst ≤ ((frA s (k - 1)).own.length : Int) - 1 := by omega
     obtain ⟨q, hq⟩ := Int.eq_ofNat_of_zero_le d1
     have e3 : Sh.get (frA s (k - 1)).own (frA s k).dst = some (at0 (frA s (k - 1)).own (frA s k).dst.toNat) := by
      rw [hq]; exact at0_get (by omega)
     rw [e3]
     simp [d1, d2, d2']
    ·have d2' : ¬ (frA s k).dst ≤ ((frA s (k - 1)).own.length : Int) - 1 := by omega
     simp [d1, d2, d2']
   ·simp [d1]
 unfold spec_validFrame
 rw [g1]
 simp only [Option.bind_some]
 rw [hdst]
 generalize hf : frA s k = f at *
 unfold RC.fz at hz
 simp only [inRange_eq, len_def, Option.bind_some]
 have e1 : Sh.w ((im.procs.length : Int) - 1) = (im.procs.length : Int) - 1 := w_id (by omega) (by omega)
 rw [e1]
 have e2 : (decide (0 ≤ f.proc) && decide (f.proc ≤ (im.procs.length : Int) - 1)) = procOK im f := by
  unfold procOK; congr 1; exact decide_eq_decide.2 (by omega)
 rw [e2]
 unfold fvB
 cases hp : procOK im f with
 | false => simp
 | true =>
  obtain ⟨p1, p2⟩ := proc_get hp
  rw [p1]
  have hcl := S.cl _ p2
  generalize prA im f = p at *
  simp only [Option.bind_some, Bool.not_true, Bool.false_eq_true, if_false, Bool.true_and]
  have e3 : Sh.w ((p.code.length : Int) - 1) = (p.code.length : Int) - 1 := w_id (by omega) (by omega)
  rw [e3]
  have e4 : (decide (0 ≤ f.at_) && decide (f.at_ ≤ (p.code.length : Int) - 1)) = (decide (0 ≤ f.at_) && decide (f.at_ < (p.code.length : Int))) := by
   congr 1; exact decide_eq_decide.2 (by omega)
  rw [e4]
  unfold lensB
  by_cases a1 : 0 ≤ f.at_
  ·by_cases a2 : f.at_ < (p.code.length : Int)
   ·by_cases a3 : (f.regs.length : Int) = p.regs
    ·by_cases a4 : (f.own.length : Int) = p.regs
     ·by_cases a5 : (f.held.length : Int) = p.regs
      ·have hreg : spec_validRegs N s.heap f = some (allR f.regs.length (regI f) && allR f.regs.length (lvB s.heap f)) := by
        unfold spec_validRegs
        have e5 : (allR f.regs.length (regI f) && allR f.regs.length (lvB s.heap f)) = allR f.regs.length (fun i => regI f i && lvB s.heap f i) := by
         unfold allR
         induction List.range f.regs.length with
         | nil => rfl
         | cons x r ih => simp only [List.all_cons]; rw [← ih]; cases regI f x <;> cases lvB s.heap f x <;> cases r.all (regI f) <;> simp
        rw [e5, ← allR_all f.regs]
        rw [all_loop (l := f.regs) (spec_validRegs_L1 s.heap f) (fun i _ => regI f i && lvB s.heap f i) (fun n => by rw [spec_validRegs_L1, if_neg (by simp [len_def])]) (fun n i x hx => ?_) (by omega), cont_all]
        ·cases allAt (fun i (_ : Int) => regI f i && lvB s.heap f i) 0 f.regs <;> rfl
        ·have hi := (List.getElem?_eq_some_iff.1 hx).1
         rw [spec_validRegs_L1, if_pos (by simp [len_def]; omega), get_lt hx, at0_get (by omega), w_id (by omega) (by omega), show ((i : Int) + 1) = ((i + 1 : Nat) : Int) by omega]
         unfold spec_isPointer
         simp only [Option.bind_some, inRange_eq, isLive_eq hhl (hin.regs.1 x (List.mem_of_getElem? hx))]
         unfold regI lvB
         rw [at0_eq hx, show (decide (-999 ≤ x) && decide (x ≤ 999)) = intW x from rfl]
         generalize at0 f.own i = o
         cases intW x <;> by_cases x1 : 1000 ≤ x <;> by_cases o1 : 0 ≤ o <;> by_cases o2 : o ≤ 999999 <;> by_cases o3 : 0 < o <;> cases liveW s.heap x <;> simp [x1, o1, o2, o3]
       rw [hreg]
       cases allR f.regs.length (regI f) <;> cases allR f.regs.length (lvB s.heap f) <;> cases dstB s k <;> simp [a1, a2, a3, a4, a5]
      ·simp [a1, a2, a3, a4, a5]
     ·simp [a1, a2, a3, a4]
    ·simp [a1, a2, a3]
   ·simp [a1, a2]
  ·simp [a1]
end RC

