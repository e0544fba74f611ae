import Derived.Test.YtcegihniiokijaaGreatXNJ

namespace RC
open Go
def bump (l : List Int) (o : Int) : List Int := if ctg o then Sh.put l (Sh.w (o - 14)) (Sh.w (((Sh.get l (Sh.w (o - 14))).getD 0) + 1)) else l
mutual
def cns : Step → List Int → List Int | .mk o _ _ _ k, l => cnk k (bump l o)
def cnk : List (BlockOf Step) → List Int → List Int | [], l => l | b :: k, l => cnk k (cnb b l)
def cnb : BlockOf Step → List Int → List Int | ⟨ss, _⟩, l => cnl ss l
def cnl : List Step → List Int → List Int | [], l => l | s :: r, l => cnl r (cns s l)
end
theorem cns_eq (s : Step) (l : List Int) : cns s l = cnk s.kids (bump l s.op) := by cases s; simp only [cns]; rfl
theorem cnb_eq (b : Block) (l : List Int) : cnb b l = cnl b.steps l := by cases b; simp only [cnb]
theorem bump_len (l : List Int) (o : Int) : (bump l o).length = l.length := by unfold bump; split <;> simp [Sh.put]
mutual
theorem cns_len : ∀ (s : Step) (l : List Int), (cns s l).length = l.length
 | .mk o _ _ _ k, l => by simp only [cns]; rw [cnk_len k, bump_len]
theorem cnk_len : ∀ (k : List (BlockOf Step)) (l : List Int), (cnk k l).length = l.length
 | [], l => by simp only [cnk]
 | b :: k, l => by simp only [cnk]; rw [cnk_len k, cnb_len b]
theorem cnb_len : ∀ (b : BlockOf Step) (l : List Int), (cnb b l).length = l.length
 | ⟨ss, _⟩, l => by simp only [cnb]; exact cnl_len ss l
theorem cnl_len : ∀ (r : List Step) (l : List Int), (cnl r l).length = l.length
 | [], l => by simp only [cnl]
 | s :: r, l => by simp only [cnl]; rw [cnl_len r, cns_len s]
end
theorem bump_at {l : List Int} (h : l.length = 4) {o : Int} (hc : ctg o = true) : ∃ c, Sh.get l (Sh.w (o - 14)) = some c ∧ bump l o = Sh.put l (Sh.w (o - 14)) (Sh.w (c + 1)) := by
 unfold bump
 rw [if_pos hc]
 unfold ctg at hc
 simp only [Bool.and_eq_true, decide_eq_true_eq] at hc
 rw [w_id (by omega) (by omega)]
 obtain ⟨c, h1, _⟩ := get_pos (l := l) (j := o - 14) (by omega) (by omega)
 exact ⟨c, h1, by rw [h1]; rfl⟩
theorem copyI {l : List Int} (hl : l.length = 4) : spec_copyInts l = some l := by
 unfold spec_copyInts
 rw [app_ok [] l 8 (by simp; omega) (by simp; omega)]; rfl
theorem sc_L2 {b : Block} {s : Step} {j : Nat} (hs : b.steps[j]? = some s) {rec : Block → List Int → Option (List Int)} (hk : s.kids.length ≤ 1048576) (hrec : ∀ c ∈ s.kids, ∀ l : List Int, l.length = 4 → rec c l = some (cnb c l)) {N i : Nat} (hi : i ≤ s.kids.length) (hN : s.kids.length - i < N) : ∀ l : List Int, l.length = 4 → spec_countsIn_B_L2 j b rec N i l = some (cnk (s.kids.drop i) l) := by
 refine loop_ind s.kids.length (fun N i => ∀ l : List Int, l.length = 4 → spec_countsIn_B_L2 j b rec N i l = some (cnk (s.kids.drop i) l)) ?_ ?_ hi hN
 ·intro n l _
  rw [spec_countsIn_B_L2, get_lt hs]
  simp only [Option.bind_some]
  rw [if_neg (by simp [len_def])]; simp [cnk]
 ·intro n i hi ih l hl
  obtain ⟨c, hc, hcm⟩ := at_lt hi
  rw [spec_countsIn_B_L2, get_lt hs]
  simp only [Option.bind_some]
  rw [if_pos (by simp [len_def]; omega), get_lt hc]
  simp only [Option.bind_some]
  rw [hrec c hcm l hl, w_id (by omega) (by omega), show ((i : Int) + 1) = ((i + 1 : Nat) : Int) by omega, drop_cons hc]
  simp only [Option.bind_some]
  rw [ih _ (by rw [cnb_len, hl]), cnk]
theorem sc_L1 {b : Block} {rec : Block → List Int → Option (List Int)} {M : Nat} (hM : 2000000 ≤ M) (hb : Bs b) (hrec : ∀ s ∈ b.steps, ∀ c ∈ s.kids, ∀ l : List Int, l.length = 4 → rec c l = some (cnb c l)) {N i : Nat} (hi : i ≤ b.steps.length) (hN : b.steps.length - i < N) : ∀ l : List Int, l.length = 4 → spec_countsIn_B_L1 M b rec N i l = some (cnl (b.steps.drop i) l) := by
 have hbl := hb.len
 refine loop_ind b.steps.length (fun N i => ∀ l : List Int, l.length = 4 → spec_countsIn_B_L1 M b rec N i l = some (cnl (b.steps.drop i) l)) ?_ ?_ hi hN
 ·intro n l _
  rw [spec_countsIn_B_L1, if_neg (by simp [len_def])]; simp [cnl]
 ·intro n i hi ih l hl
  obtain ⟨s, hs, hsm⟩ := at_lt hi
  have hkl := kids_len hb hsm
  have l2 := fun l hl => sc_L2 hs hkl (hrec s hsm) (Nat.zero_le _) (by omega : s.kids.length - 0 < M) l hl
  rw [show ((0 : Nat) : Int) = 0 from rfl, List.drop_zero] at l2
  rw [spec_countsIn_B_L1, if_pos (by simp [len_def]; omega), get_lt hs, w_id (n := (i : Int) + 1) (by omega) (by omega), show ((i : Int) + 1) = ((i + 1 : Nat) : Int) by omega, drop_cons hs]
  simp only [Option.bind_some]
  rw [ctg_spec]
  have e : (if ctg s.op = true then (Sh.get l (Sh.w (s.op - 14))).bind fun c34 => some (Sh.put l (Sh.w (s.op - 14)) (Sh.w (c34 + 1))) else some l) = some (bump l s.op) := by
   by_cases hc : ctg s.op = true
   ·obtain ⟨c, h1, h2⟩ := bump_at hl hc
    rw [if_pos hc, h1, h2]; rfl
   ·rw [if_neg hc]; unfold bump; rw [if_neg hc]
  simp only [Option.bind_some]
  rw [e]
  simp only [Option.bind_some]
  rw [l2 _ (by rw [bump_len, hl])]
  simp only [Option.bind_some]
  rw [← cns_eq, ih _ (by rw [cns_len, hl]), cnl]
theorem spec_cnt_F {N : Nat} (hN : 2000000 ≤ N) : ∀ (m : Nat) (b : Block), Bs b → bsz b < m → ∀ l : List Int, l.length = 4 → spec_countsIn_F N m b l = some (cnb b l) := by
 intro m
 induction m with
 | zero => intro b _ h; omega
 | succ m ih =>
  intro b hb hm l hl
  have hbl := hb.len
  rw [spec_countsIn_F]
  unfold spec_countsIn_B
  have L := sc_L1 hN hb (rec := spec_countsIn_F N m) (fun s hs c hc => ih c (kid_bs hb hs hc).1 (by have := (kid_bs hb hs hc).2; omega)) (Nat.zero_le _) (by omega : b.steps.length - 0 < N) l hl
  rw [show ((0 : Nat) : Int) = 0 from rfl, List.drop_zero] at L
  rw [copyI hl]
  simp only [Option.bind_some]
  rw [L, cnb_eq]; rfl
theorem ic_step {s : Step} {l : List Int} (hl : l.length = 4) : impl_CountsOf_1 l s = some (bump l s.op) := by
 unfold impl_CountsOf_1
 rw [ctg_impl]
 simp only [Option.bind_some]
 by_cases hc : ctg s.op = true
 ·obtain ⟨c, h1, h2⟩ := bump_at hl hc
  rw [if_pos hc, h1, h2]; rfl
 ·rw [if_neg hc]; unfold bump; rw [if_neg hc]
theorem ic_L2 {s : Step} {rec : List Int → Block → Option (List Int)} (hk : s.kids.length ≤ 1048576) (hrec : ∀ c ∈ s.kids, ∀ l : List Int, l.length = 4 → rec l c = some (cnb c l)) {N i : Nat} (hi : i ≤ s.kids.length) (hN : s.kids.length - i < N) : ∀ l : List Int, l.length = 4 → impl_visitSteps_2_B_L2 s rec N i l = some (cnk (s.kids.drop i) l) := by
 refine loop_ind s.kids.length (fun N i => ∀ l : List Int, l.length = 4 → impl_visitSteps_2_B_L2 s rec N i l = some (cnk (s.kids.drop i) l)) ?_ ?_ hi hN
 ·intro n l _
  rw [impl_visitSteps_2_B_L2, if_neg (by simp [len_def])]; simp [cnk]
 ·intro n i hi ih l hl
  obtain ⟨c, hc, hcm⟩ := at_lt hi
  rw [impl_visitSteps_2_B_L2, if_pos (by simp [len_def]; omega), get_lt hc]
  simp only [Option.bind_some]
  rw [hrec c hcm l hl, w_id (by omega) (by omega), show ((i : Int) + 1) = ((i + 1 : Nat) : Int) by omega, drop_cons hc]
  simp only [Option.bind_some]
  rw [ih _ (by rw [cnb_len, hl]), cnk]
theorem ic_L1 {b : Block} {rec : List Int → Block → Option (List Int)} {M : Nat} (hM : 2000000 ≤ M) (hb : Bs b) (hrec : ∀ s ∈ b.steps, ∀ c ∈ s.kids, ∀ l : List Int, l.length = 4 → rec l c = some (cnb c l)) {N i : Nat} (hi : i ≤ b.steps.length) (hN : b.steps.length - i < N) : ∀ l : List Int, l.length = 4 → impl_visitSteps_2_B_L1 M b rec N i l = some (cnl (b.steps.drop i) l) := by
 have hbl := hb.len
 refine loop_ind b.steps.length (fun N i => ∀ l : List Int, l.length = 4 → impl_visitSteps_2_B_L1 M b rec N i l = some (cnl (b.steps.drop i) l)) ?_ ?_ hi hN
 ·intro n l _
  rw [impl_visitSteps_2_B_L1, if_neg (by simp [len_def])]; simp [cnl]
 ·intro n i hi ih l hl
  obtain ⟨s, hs, hsm⟩ := at_lt hi
  have hkl := kids_len hb hsm
  have l2 := fun l hl => ic_L2 hkl (hrec s hsm) (Nat.zero_le _) (by omega : s.kids.length - 0 < M) l hl
  rw [show ((0 : Nat) : Int) = 0 from rfl, List.drop_zero] at l2
  rw [impl_visitSteps_2_B_L1, if_pos (by simp [len_def]; omega), get_lt hs, w_id (n := (i : Int) + 1) (by omega) (by omega), show ((i : Int) + 1) = ((i + 1 : Nat) : Int) by omega, drop_cons hs]
  simp only [Option.bind_some]
  rw [ic_step hl]
  simp only [Option.bind_some]
  rw [l2 _ (by rw [bump_len, hl])]
  simp only [Option.bind_some]
  rw [← cns_eq, ih _ (by rw [cns_len, hl]), cnl]
theorem impl_cnt_F {N : Nat} (hN : 2000000 ≤ N) : ∀ (m : Nat) (b : Block), Bs b → bsz b < m → ∀ l : List Int, l.length = 4 → impl_visitSteps_2_F N m l b = some (cnb b l) := by
 intro m
 induction m with
 | zero => intro b _ h; omega
 | succ m ih =>
  intro b hb hm l hl
  have hbl := hb.len
  rw [impl_visitSteps_2_F]
  unfold impl_visitSteps_2_B
  have L := ic_L1 hN hb (rec := impl_visitSteps_2_F N m) (fun s hs c hc => ih c (kid_bs hb hs hc).1 (by have := (kid_bs hb hs hc).2; omega)) (Nat.zero_le _) (by omega : b.steps.length - 0 < N) l hl
  rw [show ((0 : Nat) : Int) = 0 from rfl, List.drop_zero] at L
  rw [L, cnb_eq]; rfl
def cnr : List RRoutine → List Int → List Int
 | [], l => l
 | r :: q, l => cnr q (cnb r.body l)
theorem cnr_len : ∀ (q : List RRoutine) (l : List Int), (cnr q l).length = l.length
 | [], _ => rfl
 | r :: q, l => by rw [cnr, cnr_len q, cnb_len]
theorem CountsOf_both {n : RNormal} (S : NSmall n) {N : Nat} (hN : 2000000 ≤ N) : ∃ l : List Int, l.length ≤ 4 ∧ spec_CountsOf N n = some l ∧ impl_CountsOf N n = some l := by
 have hl := S.rlen
 obtain ⟨v, h1, h2⟩ := ValidNormal_both S hN
 unfold spec_CountsOf impl_CountsOf
 rw [h1, h2]
 simp only [Option.bind_some]
 cases v with
 | false => exact ⟨[], by decide, rfl, rfl⟩
 | true =>
  refine ⟨cnr n.routines [0, 0, 0, 0], by rw [cnr_len]; decide, ?_, ?_⟩
  ·have key : ∀ {M i : Nat}, i ≤ n.routines.length → n.routines.length - i < M → ∀ l : List Int, l.length = 4 → spec_countsOf_L1 N n M i l = some (cnr (n.routines.drop i) l) := by
    intro M i hi hM
    refine loop_ind n.routines.length (fun M i => ∀ l : List Int, l.length = 4 → spec_countsOf_L1 N n M i l = some (cnr (n.routines.drop i) l)) ?_ ?_ hi hM
    ·intro q l _
     rw [spec_countsOf_L1, if_neg (by simp [len_def])]; simp [cnr]
    ·intro q i hi ih l h4
     obtain ⟨r, hr, hrm⟩ := at_lt hi
     have hb := (S.rz hrm).2.2
     rw [spec_countsOf_L1, if_pos (by simp [len_def]; omega), get_lt hr, w_id (n := (i : Int) + 1) (by omega) (by omega), show ((i : Int) + 1) = ((i + 1 : Nat) : Int) by omega, drop_cons hr]
     simp only [Option.bind_some]
     unfold spec_countsIn
     rw [spec_cnt_F hN N r.body hb (by unfold Bs at hb; omega) l h4]
     simp only [Option.bind_some]
     rw [ih _ (by rw [cnb_len, h4]), cnr]
   have k := key (Nat.zero_le _) (by omega : n.routines.length - 0 < N) [0, 0, 0, 0] rfl
   rw [show ((0 : Nat) : Int) = 0 from rfl, List.drop_zero] at k
   unfold spec_countsOf
   rw [k]; rfl
  ·have key : ∀ {M i : Nat}, i ≤ n.routines.length → n.routines.length - i < M → ∀ l : List Int, l.length = 4 → impl_CountsOf_L1 N n M i l = some (cnr (n.routines.drop i) l) := by
    intro M i hi hM
    refine loop_ind n.routines.length (fun M i => ∀ l : List Int, l.length = 4 → impl_CountsOf_L1 N n M i l = some (cnr (n.routines.drop i) l)) ?_ ?_ hi hM
    ·intro q l _
     rw [impl_CountsOf_L1, if_neg (by simp [len_def])]; simp [cnr]
    ·intro q i hi ih l h4
     obtain ⟨r, hr, hrm⟩ := at_lt hi
     have hb := (S.rz hrm).2.2
     rw [impl_CountsOf_L1, if_pos (by simp [len_def]; omega), get_lt hr, w_id (n := (i : Int) + 1) (by omega) (by omega), show ((i : Int) + 1) = ((i + 1 : Nat) : Int) by omega, drop_cons hr]
     simp only [Option.bind_some]
     unfold impl_visitSteps_2
     rw [impl_cnt_F hN N r.body hb (by unfold Bs at hb; omega) l h4]
     simp only [Option.bind_some]
     rw [ih _ (by rw [cnb_len, h4]), cnr]
   have k := key (Nat.zero_le _) (by omega : n.routines.length - 0 < N) [0, 0, 0, 0] rfl
   rw [show ((0 : Nat) : Int) = 0 from rfl, List.drop_zero] at k
   have e := mk_ok (0 : Int) 4 8 (by decide) (by decide)
   rw [show ((4 : Nat) : Int) = 4 from rfl] at e
   rw [e]
   simp only [Option.bind_some]
   rw [show List.replicate 4 (0 : Int) = [0, 0, 0, 0] from rfl, k]; rfl
theorem FnExactCountsOf_plain {n : RNormal} (H : RNormalIn n) : laws_FnExactCountsOf 2000000 n = some true := by
 have hN : (2000000 : Nat) ≤ 2000000 := Nat.le_refl _
 unfold laws_FnExactCountsOf
 rw [szNormal_eq H (by omega) (by omega) hN]
 simp only [Option.bind_some]
 by_cases h : (1048576 : Int) - (nmz n : Int) < 0
 ·rw [lft_neg h]; rfl
 ·rw [lft_pos h]
  have hz : nmz n ≤ 1048576 := by omega
  have S : NSmall n := ⟨H, hz⟩
  obtain ⟨l, h0, h1, h2⟩ := CountsOf_both S hN
  obtain ⟨k, d, r, m1⟩ := markNormal_eq hz hN
  have e1 := markIntS_eq (l := l) (by omega) (k := 1) (by omega) hN
  have e2 := heldIntS_eq (m := l.length) (by omega) (k := 1) (by omega) hN
  rw [show ((1 : Nat) : Int) = 1 from rfl] at e1 e2
  rw [if_neg (by simpa using h), toNormal_eq hz hN]
  simp only [Option.bind_some]
  rw [h1, toNormal_eq2 hz hN]
  simp only [Option.bind_some]
  rw [h2]
  simp only [Option.bind_some]
  rw [eqIntS_eq (by omega) hN, eqNormal_eq hz hN, m1]
  simp only [Option.bind_some]
  rw [e1]
  simp only [Option.bind_some]
  rw [e2]
  have hk : ¬ (k : Int) < 0 := by omega
  have hh : ¬ ((1 + l.length : Nat) : Int) < 0 := by omega
  simp only [hk, hh, decide_false, decide_true, Bool.not_true, Bool.false_eq_true, if_false, Option.bind_some]
end RC

