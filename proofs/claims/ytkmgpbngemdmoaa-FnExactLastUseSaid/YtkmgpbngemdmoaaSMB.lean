/- Blocks of steps: copies, comparisons, how many steps, how many uses. -/
import Derived.Test.YtkmgpbngemdmoaaSMA
import Derived.Test.YtkmgpbngemdmoaaHMB
namespace RC
open Go

/-- Blocks that are not too great. -/
def Bs (b : Block) : Prop := bsz b ≤ 1048576
theorem Bs.len {b : Block} (h : Bs b) : b.steps.length ≤ 1048576 := by unfold Bs at h; rw [bsz_eq] at h; omega
theorem step_le {b : Block} {s : Step} (hs : s ∈ b.steps) : ssz s + 1 ≤ bsz b := by
  have h1 := lsz_mem hs
  have h2 := List.length_pos_of_mem hs
  rw [bsz_eq]; omega
theorem kid_le {s : Step} {b : Block} (hb : b ∈ s.kids) : bsz b + 1 ≤ ssz s := by
  have h1 := ksz_mem hb
  have h2 := List.length_pos_of_mem hb
  rw [ssz_eq]; omega

/-! ### Copies -/

theorem toBlockS_L1_eq {rec : Block → Option Block} {k : List Block} (hk : k.length ≤ 1048576) (hrec : ∀ b ∈ k, rec b = some b) {N i : Nat} (hi : i ≤ k.length) (hN : k.length - i < N) : ∀ m : List Block, m.length = k.length → m.take i = k.take i → laws_toBlockS_L1 k rec N i m = some k := by
  refine loop_ind k.length (fun N i => ∀ m : List Block, m.length = k.length → m.take i = k.take i → laws_toBlockS_L1 k rec N i m = some k) ?_ ?_ hi hN
  · intro n m hm ht
    rw [laws_toBlockS_L1, if_neg (by simp [len_def])]
    rw [List.take_of_length_le (by omega), List.take_length] at ht
    rw [ht]
  · intro n i hi ih m hm ht
    obtain ⟨x, hx, hxm⟩ := at_lt hi
    obtain ⟨y, hy, _⟩ := at_lt (l := m) (i := i) (by omega)
    rw [laws_toBlockS_L1, if_pos (by simp [len_def]; omega), get_lt hx]
    simp only [Option.bind_some]
    rw [hrec x hxm]
    simp only [Option.bind_some]
    rw [get_lt hy]
    simp only [Option.bind_some]
    rw [w_id (by omega) (by omega), put_nat, show ((i : Int) + 1) = ((i + 1 : Nat) : Int) by omega]
    refine ih _ (by simp [hm]) ?_
    rw [take_snoc hx, take_snoc (x := x) (by rw [List.getElem?_set]; simp; omega), List.take_set_of_le (Nat.le_refl _), ht]
theorem toStep_eq {N : Nat} (hN : 2000000 ≤ N) {rec : Block → Option Block} {s : Step} (hs : ssz s ≤ 1048576) (hrec : ∀ b ∈ s.kids, rec b = some b) : laws_toStep N rec s = some s := by
  rw [ssz_eq] at hs
  unfold laws_toStep laws_toBlockS
  rw [toIntS_eq (by omega) hN, len_def, mk_ok _ s.kids.length 32 (by omega) (by omega)]
  simp only [Option.bind_some]
  have := toBlockS_L1_eq (by omega) hrec (Nat.zero_le _) (by omega : s.kids.length - 0 < N) (List.replicate s.kids.length (Block.mk [] 0)) (by simp) (by simp)
  rw [show ((0 : Nat) : Int) = 0 from rfl] at this
  rw [this]
  exact congrArg some (Step.eta s).symm
theorem toStepS_L1_eq {M : Nat} (hM : 2000000 ≤ M) {rec : Block → Option Block} {k : List Step} (hk : k.length ≤ 1048576) (hs : ∀ s ∈ k, ssz s ≤ 1048576) (hrec : ∀ s ∈ k, ∀ b ∈ s.kids, rec b = some b) {N i : Nat} (hi : i ≤ k.length) (hN : k.length - i < N) : ∀ m : List Step, m.length = k.length → m.take i = k.take i → laws_toStepS_L1 M k rec N i m = some k := by
  refine loop_ind k.length (fun N i => ∀ m : List Step, m.length = k.length → m.take i = k.take i → laws_toStepS_L1 M k rec N i m = some k) ?_ ?_ hi hN
  · intro n m hm ht
    rw [laws_toStepS_L1, if_neg (by simp [len_def])]
    rw [List.take_of_length_le (by omega), List.take_length] at ht
    rw [ht]
  · intro n i hi ih m hm ht
    obtain ⟨x, hx, hxm⟩ := at_lt hi
    obtain ⟨y, hy, _⟩ := at_lt (l := m) (i := i) (by omega)
    rw [laws_toStepS_L1, if_pos (by simp [len_def]; omega), get_lt hx]
    simp only [Option.bind_some]
    rw [toStep_eq hM (hs x hxm) (hrec x hxm)]
    simp only [Option.bind_some]
    rw [get_lt hy]
    simp only [Option.bind_some]
    rw [w_id (by omega) (by omega), put_nat, show ((i : Int) + 1) = ((i + 1 : Nat) : Int) by omega]
    refine ih _ (by simp [hm]) ?_
    rw [take_snoc hx, take_snoc (x := x) (by rw [List.getElem?_set]; simp; omega), List.take_set_of_le (Nat.le_refl _), ht]
theorem toBlock_F_eq {N : Nat} (hN : 2000000 ≤ N) : ∀ (n : Nat) (b : Block), Bs b → bsz b < n → laws_toBlock_F N n b = some b := by
  intro n
  induction n with
  | zero => intro b _ h; omega
  | succ n ih =>
    intro b hb hn
    have hl := hb.len
    rw [laws_toBlock_F]
    unfold laws_toBlock_B laws_toStepS
    rw [len_def, mk_ok _ b.steps.length 72 (by omega) (by omega)]
    simp only [Option.bind_some]
    have := toStepS_L1_eq hN (rec := laws_toBlock_F N n) hl (fun s hs => by have := step_le hs; unfold Bs at hb; omega) (fun s hs c hc => ih c (by have := step_le hs; have := kid_le hc; unfold Bs at *; omega) (by have := step_le hs; have := kid_le hc; omega)) (Nat.zero_le _) (by omega : b.steps.length - 0 < N) (List.replicate b.steps.length (Step.mk 0 0 0 [] [])) (by simp) (by simp)
    rw [show ((0 : Nat) : Int) = 0 from rfl] at this
    rw [this]; rfl
theorem toBlock_eq {b : Block} (hb : Bs b) {N : Nat} (hN : 2000000 ≤ N) : laws_toBlock N b = some b := by
  unfold laws_toBlock
  exact toBlock_F_eq hN N b hb (by unfold Bs at hb; omega)

/-! ### Comparisons -/

theorem eqBlockS_L1_eq {rec : Block → Block → Option Bool} {k : List Block} (hk : k.length ≤ 1048576) (hrec : ∀ b ∈ k, rec b b = some true) {N i : Nat} (hi : i ≤ k.length) (hN : k.length - i < N) : laws_eqBlockS_L1 k k rec N i = some (Sum.inr ()) := by
  refine loop_ind k.length (fun N i => laws_eqBlockS_L1 k k rec N i = some (Sum.inr ())) ?_ ?_ hi hN
  · intro n
    rw [laws_eqBlockS_L1, if_neg (by simp [len_def])]
  · intro n i hi ih
    obtain ⟨x, hx, hxm⟩ := at_lt hi
    rw [laws_eqBlockS_L1, if_pos (by simp [len_def]; omega), get_lt hx]
    simp only [Option.bind_some]
    rw [hrec x hxm, w_id (by omega) (by omega), show ((i : Int) + 1) = ((i + 1 : Nat) : Int) by omega]
    simpa using ih
theorem eqStep_eq {N : Nat} (hN : 2000000 ≤ N) {rec : Block → Block → Option Bool} {s : Step} (hs : ssz s ≤ 1048576) (hrec : ∀ b ∈ s.kids, rec b b = some true) : laws_eqStep N rec s s = some true := by
  rw [ssz_eq] at hs
  unfold laws_eqStep laws_eqBlockS
  have := eqBlockS_L1_eq (k := s.kids) (by omega) hrec (Nat.zero_le _) (by omega : s.kids.length - 0 < N)
  rw [show ((0 : Nat) : Int) = 0 from rfl] at this
  simp [eqIntS_eq (l := s.args) (by omega) hN, this]
theorem eqStepS_L1_eq {M : Nat} (hM : 2000000 ≤ M) {rec : Block → Block → Option Bool} {k : List Step} (hk : k.length ≤ 1048576) (hs : ∀ s ∈ k, ssz s ≤ 1048576) (hrec : ∀ s ∈ k, ∀ b ∈ s.kids, rec b b = some true) {N i : Nat} (hi : i ≤ k.length) (hN : k.length - i < N) : laws_eqStepS_L1 M k k rec N i = some (Sum.inr ()) := by
  refine loop_ind k.length (fun N i => laws_eqStepS_L1 M k k rec N i = some (Sum.inr ())) ?_ ?_ hi hN
  · intro n
    rw [laws_eqStepS_L1, if_neg (by simp [len_def])]
  · intro n i hi ih
    obtain ⟨x, hx, hxm⟩ := at_lt hi
    rw [laws_eqStepS_L1, if_pos (by simp [len_def]; omega), get_lt hx]
    simp only [Option.bind_some]
    rw [eqStep_eq hM (hs x hxm) (hrec x hxm), w_id (by omega) (by omega), show ((i : Int) + 1) = ((i + 1 : Nat) : Int) by omega]
    simpa using ih
theorem eqBlock_F_eq {N : Nat} (hN : 2000000 ≤ N) : ∀ (n : Nat) (b : Block), Bs b → bsz b < n → laws_eqBlock_F N n b b = some true := by
  intro n
  induction n with
  | zero => intro b _ h; omega
  | succ n ih =>
    intro b hb hn
    have hl := hb.len
    rw [laws_eqBlock_F]
    unfold laws_eqBlock_B laws_eqStepS
    have := eqStepS_L1_eq hN (rec := laws_eqBlock_F N n) hl (fun s hs => by have := step_le hs; unfold Bs at hb; omega) (fun s hs c hc => ih c (by have := step_le hs; have := kid_le hc; unfold Bs at *; omega) (by have := step_le hs; have := kid_le hc; omega)) (Nat.zero_le _) (by omega : b.steps.length - 0 < N)
    rw [show ((0 : Nat) : Int) = 0 from rfl] at this
    simp [this]
theorem eqBlock_eq {b : Block} (hb : Bs b) {N : Nat} (hN : 2000000 ≤ N) : laws_eqBlock N b b = some true := by
  unfold laws_eqBlock
  exact eqBlock_F_eq hN N b hb (by unfold Bs at hb; omega)

/-! ### How many steps -/

mutual
def nss : Step → Nat | .mk _ _ _ _ k => nks k + 1
def nks : List (BlockOf Step) → Nat | [] => 0 | b :: k => nst b + nks k
def nst : BlockOf Step → Nat | ⟨ss, _⟩ => nls ss
def nls : List Step → Nat | [] => 0 | s :: l => nss s + nls l
end
theorem nss_eq (s : Step) : nss s = nks s.kids + 1 := by cases s; simp [nss, Step.kids]
theorem nst_eq (b : Block) : nst b = nls b.steps := by cases b; simp [nst]
theorem nks_drop {k : List Block} {i : Nat} {b : Block} (h : k[i]? = some b) : nks (k.drop i) = nst b + nks (k.drop (i + 1)) := by rw [drop_cons h]; simp [nks]
theorem nls_drop {l : List Step} {i : Nat} {s : Step} (h : l[i]? = some s) : nls (l.drop i) = nss s + nls (l.drop (i + 1)) := by rw [drop_cons h]; simp [nls]

theorem left_L2_eq {b : Block} {s : Step} {i : Nat} {rec : Block → Int → Option Int} (hs : b.steps[i]? = some s) (hk : s.kids.length ≤ 1048576) (hrec : ∀ c ∈ s.kids, ∀ l : Int, 0 ≤ l → l ≤ 600 → rec c l = some (lf l (nst c))) {N k : Nat} (hi : k ≤ s.kids.length) (hN : s.kids.length - k < N) : ∀ left : Int, 0 ≤ left → left ≤ 600 →
    spec_stepsLeft_B_L2 i b rec N left k = some (if left - nks (s.kids.drop k) < 0 then Sum.inl (-1) else Sum.inr (left - nks (s.kids.drop k))) := by
  refine loop_ind s.kids.length (fun N k => ∀ left : Int, 0 ≤ left → left ≤ 600 → spec_stepsLeft_B_L2 i b rec N left k = some (if left - nks (s.kids.drop k) < 0 then Sum.inl (-1) else Sum.inr (left - nks (s.kids.drop k)))) ?_ ?_ hi hN
  · intro n left h0 h1
    rw [spec_stepsLeft_B_L2, get_lt hs]
    simp only [Option.bind_some]
    rw [if_neg (by simp [len_def])]
    simp [nks]; omega
  · intro n k hi ih left h0 h1
    obtain ⟨c, hc, hcm⟩ := at_lt hi
    rw [spec_stepsLeft_B_L2, get_lt hs]
    simp only [Option.bind_some]
    rw [if_pos (by simp [len_def]; omega), get_lt hc]
    simp only [Option.bind_some]
    rw [hrec c hcm left h0 h1, nks_drop hc]
    simp only [Option.bind_some]
    unfold lf
    by_cases h2 : left - nst c < 0
    · simp only [h2, if_true]
      rw [if_pos (by simp), if_pos (by omega)]
    · simp only [h2, if_false]
      rw [if_neg (by simp), w_id (by omega) (by omega), show ((k : Int) + 1) = ((k + 1 : Nat) : Int) by omega, ih (left - nst c) (by omega) (by omega)]
      have e : left - (nst c : Int) - nks (s.kids.drop (k + 1)) = left - ((nst c + nks (s.kids.drop (k + 1)) : Nat) : Int) := by omega
      rw [e]
theorem left_L1_eq {b : Block} {rec : Block → Int → Option Int} {M : Nat} (hM : 2000000 ≤ M) (hl : b.steps.length ≤ 1048576) (hk : ∀ s ∈ b.steps, s.kids.length ≤ 1048576) (hrec : ∀ s ∈ b.steps, ∀ c ∈ s.kids, ∀ l : Int, 0 ≤ l → l ≤ 600 → rec c l = some (lf l (nst c))) {N i : Nat} (hi : i ≤ b.steps.length) (hN : b.steps.length - i < N) : ∀ left : Int, 0 ≤ left → left ≤ 600 →
    spec_stepsLeft_B_L1 M b rec N left i = some (if left - nls (b.steps.drop i) < 0 then Sum.inl (-1) else Sum.inr (left - nls (b.steps.drop i))) := by
  refine loop_ind b.steps.length (fun N i => ∀ left : Int, 0 ≤ left → left ≤ 600 → spec_stepsLeft_B_L1 M b rec N left i = some (if left - nls (b.steps.drop i) < 0 then Sum.inl (-1) else Sum.inr (left - nls (b.steps.drop i)))) ?_ ?_ hi hN
  · intro n left h0 h1
    rw [spec_stepsLeft_B_L1, if_neg (by simp [len_def])]
    simp [nls]; omega
  · intro n i hi ih left h0 h1
    obtain ⟨s, hs, hsm⟩ := at_lt hi
    rw [spec_stepsLeft_B_L1, if_pos (by simp [len_def]; omega), nls_drop hs, nss_eq]
    by_cases h2 : left < 1
    · rw [if_pos (by simpa using h2), if_pos (by omega)]
    · rw [if_neg (by simpa using h2), w_id (n := left - 1) (by omega) (by omega)]
      have hks := hk s hsm
      have L2 := left_L2_eq hs hks (hrec s hsm) (Nat.zero_le _) (by omega : s.kids.length - 0 < M) (left - 1) (by omega) (by omega)
      rw [show ((0 : Nat) : Int) = 0 from rfl, List.drop_zero] at L2
      rw [L2]
      by_cases h3 : left - 1 - (nks s.kids : Int) < 0
      · rw [if_pos h3, if_pos (by omega)]; rfl
      · rw [if_neg h3]
        simp only [Sh.cont_inr]
        rw [w_id (by omega) (by omega), show ((i : Int) + 1) = ((i + 1 : Nat) : Int) by omega, ih _ (by omega) (by omega)]
        have e : left - 1 - (nks s.kids : Int) - nls (b.steps.drop (i + 1)) = left - ((nks s.kids + 1 + nls (b.steps.drop (i + 1)) : Nat) : Int) := by omega
        rw [e]
theorem kids_len {b : Block} (hb : Bs b) {s : Step} (hs : s ∈ b.steps) : s.kids.length ≤ 1048576 := by
  have h1 := step_le hs
  rw [ssz_eq] at h1
  unfold Bs at hb; omega
theorem args_len {b : Block} (hb : Bs b) {s : Step} (hs : s ∈ b.steps) : s.args.length ≤ 1048576 := by
  have h1 := step_le hs
  rw [ssz_eq] at h1
  unfold Bs at hb; omega
theorem kid_bs {b : Block} (hb : Bs b) {s : Step} (hs : s ∈ b.steps) {c : Block} (hc : c ∈ s.kids) : Bs c ∧ bsz c + 2 ≤ bsz b := by
  have h1 := step_le hs
  have h2 := kid_le hc
  unfold Bs at *
  exact ⟨by omega, by omega⟩
theorem stepsLeft_F_eq {N : Nat} (hN : 2000000 ≤ N) : ∀ (n : Nat) (b : Block) (left : Int), Bs b → bsz b < n → 0 ≤ left → left ≤ 600 → spec_stepsLeft_F N n b left = some (lf left (nst b)) := by
  intro n
  induction n with
  | zero => intro b left _ h; omega
  | succ n ih =>
    intro b left hb hn h0 h1
    have hl := hb.len
    rw [spec_stepsLeft_F]
    unfold spec_stepsLeft_B
    have := left_L1_eq (rec := spec_stepsLeft_F N n) hN hl (fun s hs => kids_len hb hs) (fun s hs c hc l l0 l1 => ih c l (kid_bs hb hs hc).1 (by have := (kid_bs hb hs hc).2; omega) l0 l1) (Nat.zero_le _) (by omega : b.steps.length - 0 < N) left h0 h1
    rw [show ((0 : Nat) : Int) = 0 from rfl, List.drop_zero, ← nst_eq] at this
    rw [this]
    unfold lf
    by_cases h3 : left - (nst b : Int) < 0
    · rw [if_pos h3, if_pos h3]; rfl
    · rw [if_neg h3, if_neg h3]; rfl
theorem spec_stepsOf_eq {b : Block} (hb : Bs b) {N : Nat} (hN : 2000000 ≤ N) : spec_stepsOf N b = some (if nst b ≤ 600 then (nst b : Int) else -1) := by
  unfold spec_stepsOf spec_stepsLeft
  rw [stepsLeft_F_eq hN N b 600 hb (by unfold Bs at hb; omega) (by decide) (by decide)]
  simp only [Option.bind_some]
  by_cases h : nst b ≤ 600
  · have e : lf 600 (nst b) = 600 - (nst b : Int) := by unfold lf; rw [if_neg (by omega)]
    rw [e, if_neg (by simp; omega), if_pos h, w_id (by omega) (by omega)]
    congr 1; omega
  · have e : lf 600 (nst b) = -1 := by unfold lf; rw [if_pos (by omega)]
    rw [e, if_neg h]; rfl

/-- How the program counts. -/
def Cs (n : Int) (m : Nat) (r : Bool × Int) : Prop := (n + m ≤ 600 → r = (true, n + m)) ∧ (¬ n + m ≤ 600 → r.1 = false)
theorem count_L2_eq {s : Step} {rec : Int → Block → Option (Bool × Int)} (hk : s.kids.length ≤ 1048576) (hrec : ∀ c ∈ s.kids, ∀ n : Int, 0 ≤ n → n ≤ 600 → ∃ r, rec n c = some r ∧ Cs n (nst c) r) {N k : Nat} (hi : k ≤ s.kids.length) (hN : s.kids.length - k < N) : ∀ n : Int, 0 ≤ n → n ≤ 600 →
    ∃ r, impl_countSteps_B_L2 s rec N k n = some r ∧ (n + nks (s.kids.drop k) ≤ 600 → r = Sum.inr (n + nks (s.kids.drop k))) ∧ (¬ n + nks (s.kids.drop k) ≤ 600 → ∃ m, r = Sum.inl (false, m)) := by
  refine loop_ind s.kids.length (fun N k => ∀ n : Int, 0 ≤ n → n ≤ 600 → ∃ r, impl_countSteps_B_L2 s rec N k n = some r ∧ (n + nks (s.kids.drop k) ≤ 600 → r = Sum.inr (n + nks (s.kids.drop k))) ∧ (¬ n + nks (s.kids.drop k) ≤ 600 → ∃ m, r = Sum.inl (false, m))) ?_ ?_ hi hN
  · intro f n h0 h1
    rw [impl_countSteps_B_L2, if_neg (by simp [len_def])]
    refine ⟨_, rfl, fun _ => by simp [nks], fun h => ?_⟩
    simp [nks] at h; omega
  · intro f k hi ih n h0 h1
    obtain ⟨c, hc, hcm⟩ := at_lt hi
    obtain ⟨⟨ok, m⟩, r1, r2, r3⟩ := hrec c hcm n h0 h1
    rw [impl_countSteps_B_L2, if_pos (by simp [len_def]; omega), get_lt hc]
    simp only [Option.bind_some]
    rw [r1, nks_drop hc]
    simp only [Option.bind_some]
    by_cases h2 : n + (nst c : Int) ≤ 600
    · cases r2 h2
      rw [if_neg (by simp), w_id (by omega) (by omega), show ((k : Int) + 1) = ((k + 1 : Nat) : Int) by omega]
      obtain ⟨r, e1, e2, e3⟩ := ih (n + nst c) (by omega) h2
      have e : n + (nst c : Int) + nks (s.kids.drop (k + 1)) = n + ((nst c + nks (s.kids.drop (k + 1)) : Nat) : Int) := by omega
      rw [e] at e2 e3
      exact ⟨r, e1, e2, e3⟩
    · have : ok = false := r3 h2
      subst this
      rw [if_pos (by simp)]
      exact ⟨_, rfl, fun h => by omega, fun _ => ⟨_, rfl⟩⟩
theorem count_L1_eq {b : Block} {rec : Int → Block → Option (Bool × Int)} {M : Nat} (hM : 2000000 ≤ M) (hl : b.steps.length ≤ 1048576) (hk : ∀ s ∈ b.steps, s.kids.length ≤ 1048576) (hrec : ∀ s ∈ b.steps, ∀ c ∈ s.kids, ∀ n : Int, 0 ≤ n → n ≤ 600 → ∃ r, rec n c = some r ∧ Cs n (nst c) r) {N i : Nat} (hi : i ≤ b.steps.length) (hN : b.steps.length - i < N) : ∀ n : Int, 0 ≤ n → n ≤ 600 →
    ∃ r, impl_countSteps_B_L1 M b rec N i n = some r ∧ (n + nls (b.steps.drop i) ≤ 600 → r = Sum.inr (n + nls (b.steps.drop i))) ∧ (¬ n + nls (b.steps.drop i) ≤ 600 → ∃ m, r = Sum.inl (false, m)) := by
  refine loop_ind b.steps.length (fun N i => ∀ n : Int, 0 ≤ n → n ≤ 600 → ∃ r, impl_countSteps_B_L1 M b rec N i n = some r ∧ (n + nls (b.steps.drop i) ≤ 600 → r = Sum.inr (n + nls (b.steps.drop i))) ∧ (¬ n + nls (b.steps.drop i) ≤ 600 → ∃ m, r = Sum.inl (false, m))) ?_ ?_ hi hN
  · intro f n h0 h1
    rw [impl_countSteps_B_L1, if_neg (by simp [len_def])]
    refine ⟨_, rfl, fun _ => by simp [nls], fun h => ?_⟩
    simp [nls] at h; omega
  · intro f i hi ih n h0 h1
    obtain ⟨s, hs, hsm⟩ := at_lt hi
    rw [impl_countSteps_B_L1, if_pos (by simp [len_def]; omega), get_lt hs, nls_drop hs, nss_eq]
    simp only [Option.bind_some]
    rw [w_id (n := n + 1) (by omega) (by omega)]
    by_cases h2 : 600 < n + 1
    · rw [if_pos (by simpa using h2)]
      exact ⟨_, rfl, fun h => by omega, fun _ => ⟨_, rfl⟩⟩
    · rw [if_neg (by simpa using h2)]
      have hks := hk s hsm
      obtain ⟨r, e1, e2, e3⟩ := count_L2_eq hks (hrec s hsm) (Nat.zero_le _) (by omega : s.kids.length - 0 < M) (n + 1) (by omega) (by omega)
      rw [show ((0 : Nat) : Int) = 0 from rfl] at e1
      rw [List.drop_zero] at e2 e3
      rw [e1]
      by_cases h3 : n + 1 + (nks s.kids : Int) ≤ 600
      · rw [e2 h3]
        simp only [Sh.cont_inr]
        rw [w_id (by omega) (by omega), show ((i : Int) + 1) = ((i + 1 : Nat) : Int) by omega]
        obtain ⟨r', f1, f2, f3⟩ := ih _ (by omega) h3
        have e : n + 1 + (nks s.kids : Int) + nls (b.steps.drop (i + 1)) = n + ((nks s.kids + 1 + nls (b.steps.drop (i + 1)) : Nat) : Int) := by omega
        rw [e] at f2 f3
        exact ⟨r', f1, f2, f3⟩
      · obtain ⟨m, hm⟩ := e3 h3
        rw [hm]
        exact ⟨_, rfl, fun h => by omega, fun _ => ⟨_, rfl⟩⟩
theorem countSteps_F_eq {N : Nat} (hN : 2000000 ≤ N) : ∀ (f : Nat) (b : Block) (n : Int), Bs b → bsz b < f → 0 ≤ n → n ≤ 600 → ∃ r, impl_countSteps_F N f n b = some r ∧ Cs n (nst b) r := by
  intro f
  induction f with
  | zero => intro b n _ h; omega
  | succ f ih =>
    intro b n hb hn h0 h1
    have hl := hb.len
    rw [impl_countSteps_F]
    unfold impl_countSteps_B
    obtain ⟨r, e1, e2, e3⟩ := count_L1_eq (rec := impl_countSteps_F N f) hN hl (fun s hs => kids_len hb hs) (fun s hs c hc l l0 l1 => ih c l (kid_bs hb hs hc).1 (by have := (kid_bs hb hs hc).2; omega) l0 l1) (Nat.zero_le _) (by omega : b.steps.length - 0 < N) n h0 h1
    rw [show ((0 : Nat) : Int) = 0 from rfl] at e1
    rw [List.drop_zero, ← nst_eq] at e2 e3
    rw [e1]
    by_cases h3 : n + (nst b : Int) ≤ 600
    · rw [e2 h3]
      exact ⟨_, rfl, fun _ => rfl, fun h => absurd h3 h⟩
    · obtain ⟨m, hm⟩ := e3 h3
      rw [hm]
      exact ⟨_, rfl, fun h => absurd h h3, fun _ => rfl⟩
theorem impl_StepsOf_eq {b : Block} (hb : Bs b) {N : Nat} (hN : 2000000 ≤ N) : impl_StepsOf N b = some (if nst b ≤ 600 then (nst b : Int) else -1) := by
  unfold impl_StepsOf impl_countSteps
  obtain ⟨⟨ok, m⟩, e1, e2, e3⟩ := countSteps_F_eq hN N b 0 hb (by unfold Bs at hb; omega) (by decide) (by decide)
  rw [e1]
  simp only [Option.bind_some]
  by_cases h : nst b ≤ 600
  · cases e2 (by omega)
    rw [if_neg (by simp), if_pos h]
    congr 1; omega
  · have : ok = false := e3 (by omega)
    subst this
    rw [if_pos (by simp), if_neg h]
end RC
