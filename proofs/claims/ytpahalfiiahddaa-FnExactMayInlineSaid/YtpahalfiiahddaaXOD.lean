import Derived.Test.YtpahalfiiahddaaXOC

namespace RC
open Go
theorem pop_eq {m m' : Nat → Bool} {F : Nat} (h : ∀ k, k < F → m k = true → m' k = true) (he : pop m' F ≤ pop m F) : ∀ k, k < F → m' k = true → m k = true := fun k hk h1 => by
 cases h0 : m k with
 | true => rfl
 | false => have := pop_lt h0 h1 hk h; omega
theorem reach_L3 {F : Nat} (hF : F ≤ 1000) {q : List Int} (hq : InF F q) (hql : q.length ≤ 1000) {N0 : Nat} (hN0 : 2000000 ≤ N0) {N i : Nat} (hi : i ≤ q.length) (hN : q.length - i < N) : ∀ m : Nat → Bool,
  spec_reachedFrom_L3 N0 q N i (nats (mk m F 0)) = some (nats (mk (withL m (q.drop i)) F 0)) := by
 refine loop_ind q.length (fun N i => ∀ m : Nat → Bool, spec_reachedFrom_L3 N0 q N i (nats (mk m F 0)) = some (nats (mk (withL m (q.drop i)) F 0))) ?_ ?_ hi hN
 ·intro n m
  rw [spec_reachedFrom_L3, if_neg (by simp [len_def]), List.drop_length, withL_nil]
 ·intro n i hi ih m
  obtain ⟨x, hx, hxm⟩ := at_lt hi
  have hxi := hq x hxm
  obtain ⟨j, rfl⟩ := Int.eq_ofNat_of_zero_le hxi.1
  rw [spec_reachedFrom_L3, if_pos (by simp [len_def]; omega), get_lt hx]
  simp only [Option.bind_some]
  rw [mk_insert (by omega) (by omega) hN0, w_id (n := (i : Int) + 1) (by omega) (by omega), show ((i : Int) + 1) = ((i + 1 : Nat) : Int) by omega, drop_cons hx, withL_cons]
  simp only [Option.bind_some]
  exact ih _
structure Rnd (p : RProgram) (F c i : Nat) (m m' : Nat → Bool) : Prop where
 mono : ∀ k, m k = true → m' k = true
 sub : Sub p F c m → Sub p F c m'
 still : Cl p F m → ∀ k, k < F → m' k = true → m k = true
 closed : pop m' F ≤ pop m F → ∀ k, i ≤ k → k < F → m k = true → ∀ x ∈ cal p k, m x.toNat = true
theorem reach_L2 {p : RProgram} {F c : Nat} (P : PO p F) {N0 : Nat} (hN0 : 2000000 ≤ N0) {N i : Nat} (hi : i ≤ F) (hN : F - i < N) : ∀ m : Nat → Bool,
  ∃ m', spec_reachedFrom_L2 N0 p N i (nats (mk m F 0)) = some (nats (mk m' F 0)) ∧ Rnd p F c i m m' := by
 have hF := P.le
 refine loop_ind F (fun N i => ∀ m : Nat → Bool, ∃ m', spec_reachedFrom_L2 N0 p N i (nats (mk m F 0)) = some (nats (mk m' F 0)) ∧ Rnd p F c i m m') ?_ ?_ hi hN
 ·intro n m
  refine ⟨m, by rw [spec_reachedFrom_L2, if_neg (by simp [len_def, P.len])], fun _ h => h, fun h => h, fun _ _ _ h => h, fun _ k h1 h2 => by omega⟩
 ·intro n i hi ih m
  rw [spec_reachedFrom_L2, if_pos (by simp [len_def, P.len]; omega), isIn_mk (by omega) hi hN0]
  simp only [Option.bind_some]
  rw [w_id (n := (i : Int) + 1) (by omega) (by omega), show ((i : Int) + 1) = ((i + 1 : Nat) : Int) by omega]
  cases hm : m i with
  | false =>
   simp only [Bool.false_eq_true, if_false, Option.bind_some]
   obtain ⟨m', h1, h2⟩ := ih m
   refine ⟨m', h1, h2.mono, h2.sub, h2.still, fun he k hk hkF hmk => ?_⟩
   by_cases e : k = i
   ·subst e; rw [hm] at hmk; cases hmk
   ·exact h2.closed he k (by omega) hkF hmk
  | true =>
   obtain ⟨f, hf, _⟩ := at_lt (l := p.funcs) (i := i) (by rw [P.len]; omega)
   simp only [if_true]
   rw [get_lt hf]
   simp only [Option.bind_some]
   rw [calleesIn_eq P hf hN0]
   simp only [Option.bind_some]
   have hl := cl_len (p := p) (F := F) (k := i)
   have e := reach_L3 (F := F) (by omega) (cl_in P (k := i)) (by omega) hN0 (Nat.zero_le _) (by omega : (cl p F i).length - 0 < N0) m
   rw [List.drop_zero, show ((0 : Nat) : Int) = 0 from rfl] at e
   rw [e]
   simp only [Option.bind_some]
   obtain ⟨m', h1, h2⟩ := ih (withL m (cl p F i))
   have g0 : ∀ k, m k = true → withL m (cl p F i) k = true := fun k hk => by simp [withL, hk]
   have g1 : ∀ k, withL m (cl p F i) k = true → m k = true ∨ (k : Int) ∈ cal p i := fun k hk => by
    simp only [withL, Bool.or_eq_true, decide_eq_true_eq] at hk
    exact hk.imp id fun h => (cl_mem P _).1 h
   have g2 : ∀ x ∈ cal p i, withL m (cl p F i) x.toNat = true := fun x hx => by
    have := cal_in P i x hx
    have e : ((x.toNat : Nat) : Int) = x := by omega
    simp only [withL, e, (cl_mem P x).2 hx, decide_true, Bool.or_true]
   refine ⟨m', h1, fun k hk => h2.mono k (g0 k hk), fun hs => h2.sub fun k hk h => ?_, fun hc k hk h => ?_, fun he k hk hkF hmk x hx => ?_⟩
   ·rcases g1 k h with h | h
    ·exact hs k hk h
    ·have := Re.step (hs i hi hm) h
     simpa using this
   ·have same : ∀ k, k < F → withL m (cl p F i) k = true → m k = true := fun k _ h => by
     rcases g1 k h with h | h
     ·exact h
     ·have := hc i hi hm _ h
      simpa using this
    exact same k hk (h2.still (fun k hk h x hx => g0 _ (hc k hk (same k hk h) x hx)) k hk h)
   ·have p1 := pop_mono (n := F) fun k _ => g0 k
    have p2 := pop_mono (n := F) fun k _ => h2.mono k
    have same := pop_eq (fun k _ => g0 k) (by omega : pop (withL m (cl p F i)) F ≤ pop m F)
    have hxF := cal_in P k x hx
    by_cases e : k = i
    ·subst e; exact same _ (by omega) (g2 x hx)
    ·exact same _ (by omega) (h2.closed (by omega) k (by omega) hkF (g0 k hmk) x hx)
theorem reach_L1 {p : RProgram} {F c : Nat} (P : PO p F) {N0 : Nat} (hN0 : 2000000 ≤ N0) {N r : Nat} (hr : r ≤ F) (hN : F - r < N) : ∀ m : Nat → Bool, Sub p F c m → m c = true → (r + 1 ≤ pop m F ∨ Cl p F m) →
  ∃ m', spec_reachedFrom_L1 N0 p N r (nats (mk m F 0)) = some (nats (mk m' F 0)) ∧ Sub p F c m' ∧ m' c = true ∧ Cl p F m' := by
 have hF := P.le
 refine loop_ind F (fun N r => ∀ m : Nat → Bool, Sub p F c m → m c = true → (r + 1 ≤ pop m F ∨ Cl p F m) → ∃ m', spec_reachedFrom_L1 N0 p N r (nats (mk m F 0)) = some (nats (mk m' F 0)) ∧ Sub p F c m' ∧ m' c = true ∧ Cl p F m') ?_ ?_ hr hN
 ·intro n m hs hc h
  refine ⟨m, by rw [spec_reachedFrom_L1, if_neg (by simp [len_def, P.len])], hs, hc, h.resolve_left fun h => by have := pop_le m F; omega⟩
 ·intro n r hr ih m hs hc h
  rw [spec_reachedFrom_L1, if_pos (by simp [len_def, P.len]; omega)]
  obtain ⟨m1, h1, h2⟩ := reach_L2 (c := c) P hN0 (Nat.zero_le F) (by omega : F - 0 < N0) m
  rw [show ((0 : Nat) : Int) = 0 from rfl] at h1
  rw [h1]
  simp only [Option.bind_some]
  rw [w_id (n := (r : Int) + 1) (by omega) (by omega), show ((r : Int) + 1) = ((r + 1 : Nat) : Int) by omega]
  have key : Cl p F m → Cl p F m1 := fun hcl k hk hm x hx => h2.mono _ (hcl k hk (h2.still hcl k hk hm) x hx)
  refine ih m1 (h2.sub hs) (h2.mono c hc) ?_
  by_cases he : pop m1 F ≤ pop m F
  ·exact .inr (key fun k hk => h2.closed he k (Nat.zero_le _) hk)
  ·rcases h with h | h
   ·exact .inl (by omega)
   ·exact .inr (key h)
end RC

