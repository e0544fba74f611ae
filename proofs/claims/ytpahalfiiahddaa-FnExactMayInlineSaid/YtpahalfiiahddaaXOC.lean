import Derived.Test.YtpahalfiiahddaaXOB

namespace RC
open Go
structure PO (p : RProgram) (F : Nat) : Prop where
 len : p.funcs.length = F
 le : F ≤ 4
 sz : ∀ f ∈ p.funcs, en f.body ≤ 30
 inF : ∀ f ∈ p.funcs, InF F (nums f.body)
def cal (p : RProgram) (k : Nat) : List Int := match p.funcs[k]? with | some f => nums f.body | none => []
theorem cal_in {p : RProgram} {F : Nat} (P : PO p F) (k : Nat) : InF F (cal p k) := by
 unfold cal
 cases h : p.funcs[k]? with
 | none => intro x hx; cases hx
 | some f => exact P.inF f (List.mem_of_getElem? h)
inductive Re (p : RProgram) (F : Nat) (c : Nat) : Nat → Prop
 | refl : Re p F c c
 | step {k : Nat} {x : Int} : Re p F c k → x ∈ cal p k → Re p F c x.toNat
def non : Nat → Bool := fun _ => false
def cl (p : RProgram) (F k : Nat) : List Int := nats (mk (withL non (cal p k)) F 0)
theorem cl_mem {p : RProgram} {F k : Nat} (P : PO p F) (x : Int) : x ∈ cl p F k ↔ x ∈ cal p k := by
 unfold cl
 constructor
 ·intro h
  obtain ⟨j, hj, rfl⟩ := List.mem_map.1 h
  have := (mk_mem.1 hj).2
  simpa [withL, non] using this
 ·intro h
  have hin := cal_in P k x h
  obtain ⟨j, rfl⟩ := Int.eq_ofNat_of_zero_le hin.1
  exact List.mem_map.2 ⟨j, mk_mem.2 ⟨by omega, by simpa [withL, non] using h⟩, rfl⟩
theorem cl_in {p : RProgram} {F k : Nat} (P : PO p F) : InF F (cl p F k) := fun x hx => cal_in P k x ((cl_mem P x).1 hx)
theorem cl_len {p : RProgram} {F k : Nat} : (cl p F k).length ≤ F := by unfold cl; rw [nats_len]; have := mk_len (withL non (cal p k)) F 0; omega
theorem calleesIn_eq {p : RProgram} {F k : Nat} (P : PO p F) {f : RFunc} (hf : p.funcs[k]? = some f) {N : Nat} (hN : 2000000 ≤ N) : spec_calleesIn N f.body [] = some (cl p F k) := by
 have hm := List.mem_of_getElem? hf
 have hs := P.sz f hm
 have hF := P.le
 have := calleesIn_F hN (F := F) (by omega) N f.body non (by omega) (by omega) (P.inF f hm)
 have e : nats (mk non F 0) = [] := by simp [mk, nats, non]
 rw [e] at this
 unfold spec_calleesIn
 rw [this]
 unfold cl cal
 rw [hf]
theorem row_non (F : Nat) : List.replicate F false = rowOf F non := by
 apply List.ext_getElem?
 intro k
 by_cases h : k < F
 ·rw [rowOf_get h, List.getElem?_replicate, if_pos h]; rfl
 ·rw [List.getElem?_eq_none (by simp; omega), List.getElem?_eq_none (by rw [rowOf_len]; omega)]
theorem calleesOf_eq {p : RProgram} {F k : Nat} (P : PO p F) {f : RFunc} (hf : p.funcs[k]? = some f) {N : Nat} (hN : 2000000 ≤ N) : impl_calleesOf N p (k : Int) = some (rowOf F (withL non (cal p k))) := by
 have hm := List.mem_of_getElem? hf
 have hs := P.sz f hm
 have hF := P.le
 unfold impl_calleesOf
 rw [len_def, P.len, mk_ok _ F 1 (by omega) (by omega), row_non, get_lt hf]
 simp only [Option.bind_some]
 unfold impl_walk_3
 rw [walk3_F hN (by omega) N f.body non (by omega) (by omega) (P.inF f hm)]
 unfold cal
 rw [hf]; rfl
theorem indices_cl {p : RProgram} {F k : Nat} (P : PO p F) {N : Nat} (hN : 2000000 ≤ N) : impl_indicesOf N (rowOf F (withL non (cal p k))) = some (cl p F k) := indicesOf_row (by have := P.le; omega) hN
def Sub (p : RProgram) (F c : Nat) (m : Nat → Bool) : Prop := ∀ k, k < F → m k = true → Re p F c k
def Cl (p : RProgram) (F : Nat) (m : Nat → Bool) : Prop := ∀ k, k < F → m k = true → ∀ x ∈ cal p k, m x.toNat = true
theorem Re_of {p : RProgram} {F c : Nat} (P : PO p F) {m : Nat → Bool} (h0 : m c = true) (hc : Cl p F m) (hcF : c < F) : ∀ {k}, Re p F c k → k < F ∧ m k = true := by
 intro k h
 induction h with
 | refl => exact ⟨hcF, h0⟩
 | step h hx ih => have := cal_in P _ _ hx; exact ⟨by omega, hc _ ih.1 ih.2 _ hx⟩
theorem work_L1 {p : RProgram} {F c : Nat} (P : PO p F) {N0 : Nat} (hN0 : 2000000 ≤ N0) : ∀ (N : Nat) (m : Nat → Bool) (w : List Int), w.length + (F - pop m F) < N → InF F w → (∀ x ∈ w, m x.toNat = true) → Sub p F c m → (w.length ≤ 4) →
  (∀ k, k < F → m k = true → (k : Int) ∈ w ∨ ∀ x ∈ cal p k, m x.toNat = true) → w.length + (F - pop m F) ≤ 4 →
  ∃ m', impl_ReachedFrom_L1 N0 p N (rowOf F m) w = some (rowOf F m') ∧ (∀ k, m k = true → m' k = true) ∧ Sub p F c m' ∧ Cl p F m' := by
 intro N
 induction N with
 | zero => intro m w h; omega
 | succ N ih =>
  intro m w hN hw hwm hs hw4 hcl hme
  rw [impl_ReachedFrom_L1]
  cases w with
  | nil =>
   rw [if_neg (by simp [len_def])]
   exact ⟨m, rfl, fun _ h => h, hs, fun k hk h => (hcl k hk h).resolve_left (by simp)⟩
  | cons x w =>
   have hF := P.le
   have hx := hw x (by simp)
   obtain ⟨j, rfl⟩ := Int.eq_ofNat_of_zero_le hx.1
   obtain ⟨f, hf, _⟩ := at_lt (l := p.funcs) (i := j) (by rw [P.len]; omega)
   have hg : Sh.get ((j : Int) :: w) 0 = some (j : Int) := rfl
   rw [if_pos (by simp [len_def]), hg]
   simp only [Option.bind_some]
   rw [calleesOf_eq P hf hN0]
   simp only [Option.bind_some]
   rw [indices_cl P hN0]
   simp only [Option.bind_some]
   have hl := cl_len (p := p) (F := F) (k := j)
   have e := push_L2 (F := F) (by omega) (cl_in P (k := j)) (by omega) (Nat.zero_le _) (by omega : (cl p F j).length - 0 < N0) m ((j : Int) :: w) (by omega)
   rw [List.drop_zero, show ((0 : Nat) : Int) = 0 from rfl] at e
   rw [e]
   simp only [Option.bind_some]
   obtain ⟨⟨v, a1, a2, a3, a4, a5⟩, b, cc, d⟩ := push_ok (F := F) (cl p F j) m ((j : Int) :: w) (cl_in P)
   generalize push (cl p F j) m ((j : Int) :: w) = pw at a1 a3 a4 a5 b cc d ⊢
   rw [a1]
   have hsl : Sh.sl ((j : Int) :: w ++ v) 1 (Sh.len ((j : Int) :: w ++ v)) = some (w ++ v) := by
    unfold Sh.sl Sh.len
    rw [if_pos ⟨by omega, by simp; omega, by omega⟩, Int.toNat_natCast, List.take_length]
    rfl
   rw [hsl]
   simp only [Option.bind_some]
   have hp1 := pop_le pw.1 F
   simp only [List.length_cons] at hN hw4 hme
   have q1 : InF F (w ++ v) := fun y hy => by
    rcases List.mem_append.1 hy with hy | hy
    ·exact hw y (by simp [hy])
    ·exact a2 y hy
   have q2 : ∀ y ∈ w ++ v, pw.1 y.toNat = true := fun y hy => by
    rcases List.mem_append.1 hy with hy | hy
    ·exact b _ (hwm y (by simp [hy]))
    ·exact a3 y hy
   have q3 : Sub p F c pw.1 := fun k hk h => by
    rcases d k h with h | h
    ·exact hs k hk h
    ·have := Re.step (hs j (by omega) (by simpa using hwm (j : Int) (by simp))) ((cl_mem P _).1 h)
     simpa using this
   have q4 : ∀ k, k < F → pw.1 k = true → (k : Int) ∈ w ++ v ∨ ∀ x ∈ cal p k, pw.1 x.toNat = true := fun k hk h => by
    rcases a4 k hk h with h | h
    ·rcases hcl k hk h with h | h
     ·rcases List.mem_cons.1 h with h | h
      ·have : k = j := by omega
       subst this
       exact .inr fun y hy => cc y ((cl_mem P y).2 hy)
      ·exact .inl (by simp [h])
     ·exact .inr fun y hy => b _ (h y hy)
    ·exact .inl (by simp [h])
   obtain ⟨m', r1, r2, r3, r4⟩ := ih pw.1 (w ++ v) (by simp; omega) q1 q2 q3 (by simp; omega) q4 (by simp; omega)
   exact ⟨m', r1, fun k h => r2 k (b k h), r3, r4⟩
end RC

