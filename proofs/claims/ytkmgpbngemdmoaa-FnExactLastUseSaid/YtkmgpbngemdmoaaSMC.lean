/- Uses of variables in blocks of steps: both ways. -/
import Derived.Test.YtkmgpbngemdmoaaSMB
namespace RC
open Go

/-- A counting step uses nothing. -/
def ctg (o : Int) : Bool := decide (14 ≤ o) && decide (o ≤ 17)
mutual
def us (v : Int) : Step → Nat | .mk o _ _ a k => if ctg o then 0 else a.countP (fun x => decide (x = v)) + uk v k
def uk (v : Int) : List (BlockOf Step) → Nat | [] => 0 | b :: k => ub v b + uk v k
def ub (v : Int) : BlockOf Step → Nat | ⟨ss, r⟩ => (if r = v then 1 else 0) + ul v ss
def ul (v : Int) : List Step → Nat | [] => 0 | s :: l => us v s + ul v l
end
def ua (v : Int) (a : List Int) : Nat := a.countP fun x => decide (x = v)
theorem us_eq (v : Int) (s : Step) : us v s = if ctg s.op then 0 else ua v s.args + uk v s.kids := by 
  cases s with | mk o x y a k => show (if ctg o then 0 else a.countP (fun x => decide (x = v)) + uk v k) = _; rfl
theorem ub_eq (v : Int) (b : Block) : ub v b = (if b.result = v then 1 else 0) + ul v b.steps := by cases b; simp [ub]
theorem uk_drop {v : Int} {k : List Block} {i : Nat} {b : Block} (h : k[i]? = some b) : uk v (k.drop i) = ub v b + uk v (k.drop (i + 1)) := by rw [drop_cons h]; simp [uk]
theorem ul_drop {v : Int} {l : List Step} {i : Nat} {s : Step} (h : l[i]? = some s) : ul v (l.drop i) = us v s + ul v (l.drop (i + 1)) := by rw [drop_cons h]; simp [ul]
theorem ua_drop {v : Int} {a : List Int} {i : Nat} {x : Int} (h : a[i]? = some x) : ua v (a.drop i) = (if x = v then 1 else 0) + ua v (a.drop (i + 1)) := by
  rw [drop_cons h]; unfold ua; rw [List.countP_cons]; simp; omega
theorem ua_le (v : Int) (a : List Int) : ua v a ≤ a.length := List.countP_le_length

mutual
theorem us_le (v : Int) : ∀ s : Step, us v s ≤ ssz s
  | .mk o _ _ a k => by
    have h1 := uk_le v k
    have h2 := ua_le v a
    unfold ua at h2
    simp only [us, ssz]
    split <;> omega
theorem uk_le (v : Int) : ∀ k : List (BlockOf Step), uk v k ≤ k.length + ksz k
  | [] => by simp [uk]
  | b :: k => by
    have h1 := ub_le v b
    have h2 := uk_le v k
    simp only [uk, ksz, List.length_cons]
    omega
theorem ub_le (v : Int) : ∀ b : BlockOf Step, ub v b ≤ 1 + bsz b
  | ⟨ss, r⟩ => by
    have h1 := ul_le v ss
    simp only [ub, bsz]
    split <;> omega
theorem ul_le (v : Int) : ∀ l : List Step, ul v l ≤ lsz l
  | [] => by simp [ul]
  | s :: l => by
    have h1 := us_le v s
    have h2 := ul_le v l
    simp only [ul, lsz]
    omega
end

theorem ctg_spec (o : Int) : spec_isCounting o = some (ctg o) := by unfold spec_isCounting; rw [inRange_eq]; rfl
theorem ctg_impl (o : Int) : impl_isCounting o = some (ctg o) := by
  unfold impl_isCounting ctg
  by_cases h : 14 ≤ o <;> simp [h]

theorem sUses_L1 {s : Step} {v : Int} (ha : s.args.length ≤ 1048576) {N i : Nat} (hi : i ≤ s.args.length) (hN : s.args.length - i < N) : ∀ n : Int, 0 ≤ n → n ≤ 1048576 + i → spec_stepUses_L1 s v N n i = some (n + ua v (s.args.drop i)) := by
  refine loop_ind s.args.length (fun N i => ∀ n : Int, 0 ≤ n → n ≤ 1048576 + i → spec_stepUses_L1 s v N n i = some (n + ua v (s.args.drop i))) ?_ ?_ hi hN
  · intro f n _ _
    rw [spec_stepUses_L1, if_neg (by simp [len_def])]; simp [ua]
  · intro f i hi ih n h0 h1
    obtain ⟨x, hx, _⟩ := at_lt hi
    rw [spec_stepUses_L1, if_pos (by simp [len_def]; omega), get_lt hx, ua_drop hx]
    simp only [Option.bind_some]
    rw [w_id (n := (i : Int) + 1) (by omega) (by omega), show ((i : Int) + 1) = ((i + 1 : Nat) : Int) by omega]
    by_cases h : x = v
    · rw [if_pos (by simpa using h), if_pos h, w_id (by omega) (by omega)]
      simp only [Option.bind_some]
      rw [ih (n + 1) (by omega) (by omega)]
      congr 1; omega
    · rw [if_neg (by simpa using h), if_neg h]
      simp only [Option.bind_some]
      rw [ih n h0 (by omega)]
      congr 1; omega
theorem sUses_L2 {s : Step} {v : Int} {rec : Block → Int → Option Int} {B : Nat} (hB : B ≤ 100000000) (hk : s.kids.length ≤ 1048576) (hrec : ∀ c ∈ s.kids, rec c v = some (ub v c : Int)) {N i : Nat} (hi : i ≤ s.kids.length) (hN : s.kids.length - i < N) : ∀ n : Nat, n + uk v (s.kids.drop i) ≤ B → spec_stepUses_L2 s v rec N n i = some ((n + uk v (s.kids.drop i) : Nat) : Int) := by
  refine loop_ind s.kids.length (fun N i => ∀ n : Nat, n + uk v (s.kids.drop i) ≤ B → spec_stepUses_L2 s v rec N n i = some ((n + uk v (s.kids.drop i) : Nat) : Int)) ?_ ?_ hi hN
  · intro f n _
    rw [spec_stepUses_L2, if_neg (by simp [len_def])]; simp [uk]
  · intro f i hi ih n hn
    obtain ⟨c, hc, hcm⟩ := at_lt hi
    rw [uk_drop hc] at hn ⊢
    rw [spec_stepUses_L2, if_pos (by simp [len_def]; omega), get_lt hc]
    simp only [Option.bind_some]
    rw [hrec c hcm, w_id (n := (i : Int) + 1) (by omega) (by omega), show ((i : Int) + 1) = ((i + 1 : Nat) : Int) by omega]
    simp only [Option.bind_some]
    rw [w_id (by omega) (by omega), show ((n : Int) + (ub v c : Int)) = ((n + ub v c : Nat) : Int) by omega, ih (n + ub v c) (by omega)]
    congr 2; omega
theorem sUses_eq {N : Nat} (hN : 2000000 ≤ N) {s : Step} {v : Int} {rec : Block → Int → Option Int} (hs : ssz s ≤ 1048576) (hrec : ∀ c ∈ s.kids, rec c v = some (ub v c : Int)) : spec_stepUses N rec s v = some (us v s : Int) := by
  have hsz := ssz_eq s
  have hus := us_le v s
  unfold spec_stepUses
  rw [ctg_spec, us_eq]
  simp only [Option.bind_some]
  rw [us_eq] at hus
  cases hc : ctg s.op with
  | true => simp
  | false =>
    rw [hc] at hus
    simp only [Bool.false_eq_true, if_false] at hus ⊢
    have l1 := sUses_L1 (v := v) (s := s) (by omega) (Nat.zero_le _) (by omega : s.args.length - 0 < N) 0 (by decide) (by omega)
    have l2 := sUses_L2 (v := v) (B := 1048576) (by decide) (by omega) hrec (Nat.zero_le _) (by omega : s.kids.length - 0 < N) (ua v s.args) (by rw [List.drop_zero]; omega)
    rw [show ((0 : Nat) : Int) = 0 from rfl, List.drop_zero] at l1 l2
    rw [l1]
    simp only [Option.bind_some]
    rw [Int.zero_add, l2]; rfl
theorem bUses_L1 {b : Block} {v : Int} {rec : Block → Int → Option Int} {M : Nat} (hM : 2000000 ≤ M) (hb : Bs b) (hrec : ∀ s ∈ b.steps, ∀ c ∈ s.kids, rec c v = some (ub v c : Int)) {N i : Nat} (hi : i ≤ b.steps.length) (hN : b.steps.length - i < N) : ∀ n : Nat, n + ul v (b.steps.drop i) ≤ 2000000 → spec_blockUses_B_L1 M b v rec N n i = some ((n + ul v (b.steps.drop i) : Nat) : Int) := by
  have hl := hb.len
  refine loop_ind b.steps.length (fun N i => ∀ n : Nat, n + ul v (b.steps.drop i) ≤ 2000000 → spec_blockUses_B_L1 M b v rec N n i = some ((n + ul v (b.steps.drop i) : Nat) : Int)) ?_ ?_ hi hN
  · intro f n _
    rw [spec_blockUses_B_L1, if_neg (by simp [len_def])]; simp [ul]
  · intro f i hi ih n hn
    obtain ⟨s, hs, hsm⟩ := at_lt hi
    rw [ul_drop hs] at hn ⊢
    rw [spec_blockUses_B_L1, if_pos (by simp [len_def]; omega), get_lt hs]
    simp only [Option.bind_some]
    rw [sUses_eq hM (by have := step_le hsm; unfold Bs at hb; omega) (hrec s hsm), w_id (n := (i : Int) + 1) (by omega) (by omega), show ((i : Int) + 1) = ((i + 1 : Nat) : Int) by omega]
    simp only [Option.bind_some]
    rw [w_id (by omega) (by omega), show ((n : Int) + (us v s : Int)) = ((n + us v s : Nat) : Int) by omega, ih (n + us v s) (by omega)]
    congr 2; omega
theorem blockUses_F_eq {N : Nat} (hN : 2000000 ≤ N) {v : Int} : ∀ (n : Nat) (b : Block), Bs b → bsz b < n → spec_blockUses_F N n b v = some (ub v b : Int) := by
  intro n
  induction n with
  | zero => intro b _ h; omega
  | succ n ih =>
    intro b hb hn
    have hl := hb.len
    have hub := ub_le v b
    rw [ub_eq] at hub
    rw [spec_blockUses_F]
    unfold spec_blockUses_B
    have L := bUses_L1 (v := v) (rec := spec_blockUses_F N n) hN hb (fun s hs c hc => ih c (kid_bs hb hs hc).1 (by have := (kid_bs hb hs hc).2; omega)) (Nat.zero_le _) (by omega : b.steps.length - 0 < N) (if b.result = v then 1 else 0) (by rw [List.drop_zero]; unfold Bs at hb; omega)
    rw [show ((0 : Nat) : Int) = 0 from rfl, List.drop_zero, ← ub_eq] at L
    have e : (if (decide (b.result = v)) = true then some (1 : Int) else some 0) = some (((if b.result = v then 1 else 0 : Nat)) : Int) := by by_cases h : b.result = v <;> simp [h]
    rw [e]
    simp only [Option.bind_some]
    rw [L]; rfl
theorem blockUses_eq {N : Nat} (hN : 2000000 ≤ N) {v : Int} {b : Block} (hb : Bs b) : spec_blockUses N b v = some (ub v b : Int) := by
  unfold spec_blockUses
  exact blockUses_F_eq hN N b hb (by unfold Bs at hb; omega)

/-! ### The program visits -/

theorem vStep_L1 {s : Step} {v : Int} (ha : s.args.length ≤ 1048576) {N i : Nat} (hi : i ≤ s.args.length) (hN : s.args.length - i < N) : ∀ n : Int, 0 ≤ n → n ≤ 10000000 + i → impl_visitStep_L1 v s N i n = some (n + ua v (s.args.drop i)) := by
  refine loop_ind s.args.length (fun N i => ∀ n : Int, 0 ≤ n → n ≤ 10000000 + i → impl_visitStep_L1 v s N i n = some (n + ua v (s.args.drop i))) ?_ ?_ hi hN
  · intro f n _ _
    rw [impl_visitStep_L1, if_neg (by simp [len_def])]; simp [ua]
  · intro f i hi ih n h0 h1
    obtain ⟨x, hx, _⟩ := at_lt hi
    rw [impl_visitStep_L1, if_pos (by simp [len_def]; omega), get_lt hx, ua_drop hx]
    simp only [Option.bind_some, impl_UsesOf_1]
    rw [w_id (n := (i : Int) + 1) (by omega) (by omega), show ((i : Int) + 1) = ((i + 1 : Nat) : Int) by omega]
    by_cases h : x = v
    · rw [if_pos (by simpa using h), if_pos h, w_id (by omega) (by omega)]
      simp only [Option.bind_some]
      rw [ih (n + 1) (by omega) (by omega)]
      congr 1; omega
    · rw [if_neg (by simpa using h), if_neg h]
      simp only [Option.bind_some]
      rw [ih n h0 (by omega)]
      congr 1; omega
theorem vStep_L2 {s : Step} {v : Int} {rec : Int → Int → Block → Int → Option (Int × Int)} {B : Nat} (hk : s.kids.length ≤ 1048576) (hrec : ∀ c ∈ s.kids, ∀ n : Nat, n + ub v c ≤ B → rec v n c 0 = some (v, ((n + ub v c : Nat) : Int))) {N i : Nat} (hi : i ≤ s.kids.length) (hN : s.kids.length - i < N) : ∀ n : Nat, n + uk v (s.kids.drop i) ≤ B → impl_visitStep_L2 s rec N i v n = some (v, ((n + uk v (s.kids.drop i) : Nat) : Int)) := by
  refine loop_ind s.kids.length (fun N i => ∀ n : Nat, n + uk v (s.kids.drop i) ≤ B → impl_visitStep_L2 s rec N i v n = some (v, ((n + uk v (s.kids.drop i) : Nat) : Int))) ?_ ?_ hi hN
  · intro f n _
    rw [impl_visitStep_L2, if_neg (by simp [len_def])]; simp [uk]
  · intro f i hi ih n hn
    obtain ⟨c, hc, hcm⟩ := at_lt hi
    rw [uk_drop hc] at hn ⊢
    rw [impl_visitStep_L2, if_pos (by simp [len_def]; omega), get_lt hc]
    simp only [Option.bind_some]
    rw [hrec c hcm n (by omega), w_id (by omega) (by omega), show ((i : Int) + 1) = ((i + 1 : Nat) : Int) by omega]
    simp only [Option.bind_some]
    rw [ih (n + ub v c) (by omega), show n + ub v c + uk v (s.kids.drop (i + 1)) = n + (ub v c + uk v (s.kids.drop (i + 1))) by omega]
theorem vStep_eq {N : Nat} (hN : 2000000 ≤ N) {s : Step} {v : Int} {rec : Int → Int → Block → Int → Option (Int × Int)} {B : Nat} (hB : B ≤ 10000000) (hs : ssz s ≤ 1048576) (hrec : ∀ c ∈ s.kids, ∀ n : Nat, n + ub v c ≤ B → rec v n c 0 = some (v, ((n + ub v c : Nat) : Int))) {n : Nat} (hn : n + us v s ≤ B) : impl_visitStep N rec v n s = some (v, ((n + us v s : Nat) : Int)) := by
  have hsz := ssz_eq s
  unfold impl_visitStep
  rw [ctg_impl]
  rw [us_eq] at hn ⊢
  simp only [Option.bind_some]
  cases hc : ctg s.op with
  | true => simp
  | false =>
    rw [hc] at hn
    simp only [Bool.false_eq_true, if_false] at hn ⊢
    have l1 := vStep_L1 (v := v) (s := s) (by omega) (Nat.zero_le _) (by omega : s.args.length - 0 < N) (n : Int) (by omega) (by omega)
    have l2 := vStep_L2 (v := v) (by omega) hrec (Nat.zero_le _) (by omega : s.kids.length - 0 < N) (n + ua v s.args) (by rw [List.drop_zero]; omega)
    rw [show ((0 : Nat) : Int) = 0 from rfl, List.drop_zero] at l1 l2
    rw [l1]
    simp only [Option.bind_some]
    rw [show ((n : Int) + (ua v s.args : Int)) = ((n + ua v s.args : Nat) : Int) by omega, l2]
    simp only [Option.bind_some]
    rw [show n + ua v s.args + uk v s.kids = n + (ua v s.args + uk v s.kids) by omega]
theorem vUses_L1 {l : List Step} {v : Int} {rec : Int → Int → Block → Int → Option (Int × Int)} {M B : Nat} (hM : 2000000 ≤ M) (hB : B ≤ 10000000) (hl : l.length ≤ 1048576) (hs : ∀ s ∈ l, ssz s ≤ 1048576) (hrec : ∀ s ∈ l, ∀ c ∈ s.kids, ∀ n : Nat, n + ub v c ≤ B → rec v n c 0 = some (v, ((n + ub v c : Nat) : Int))) {N i : Nat} (hi : i ≤ l.length) (hN : l.length - i < N) : ∀ n : Nat, n + ul v (l.drop i) ≤ B → impl_visitUses_B_L1 M l rec N i v n = some (v, ((n + ul v (l.drop i) : Nat) : Int)) := by
  refine loop_ind l.length (fun N i => ∀ n : Nat, n + ul v (l.drop i) ≤ B → impl_visitUses_B_L1 M l rec N i v n = some (v, ((n + ul v (l.drop i) : Nat) : Int))) ?_ ?_ hi hN
  · intro f n _
    rw [impl_visitUses_B_L1, if_neg (by simp [len_def])]; simp [ul]
  · intro f i hi ih n hn
    obtain ⟨s, hss, hsm⟩ := at_lt hi
    rw [ul_drop hss] at hn ⊢
    rw [impl_visitUses_B_L1, if_pos (by simp [len_def]; omega), get_lt hss]
    simp only [Option.bind_some]
    rw [vStep_eq hM hB (hs s hsm) (hrec s hsm) (by omega), w_id (by omega) (by omega), show ((i : Int) + 1) = ((i + 1 : Nat) : Int) by omega]
    simp only [Option.bind_some]
    rw [ih (n + us v s) (by omega), show n + us v s + ul v (l.drop (i + 1)) = n + (us v s + ul v (l.drop (i + 1))) by omega]
theorem sl_all {α : Type} (l : List α) (hl : l.length ≤ 1048576) : Sh.sl l 0 (Sh.len l) = some l := by
  rw [len_def]
  unfold Sh.sl
  rw [if_pos ⟨by omega, by omega, by omega⟩]; simp
theorem visitUses_F_eq {N : Nat} (hN : 2000000 ≤ N) {v : Int} {B : Nat} (hB : B ≤ 10000000) : ∀ (f : Nat) (b : Block), Bs b → bsz b < f → ∀ n : Nat, n + ub v b ≤ B → impl_visitUses_F N f v n b 0 = some (v, ((n + ub v b : Nat) : Int)) := by
  intro f
  induction f with
  | zero => intro b _ h; omega
  | succ f ih =>
    intro b hb hf n hn
    have hl := hb.len
    rw [impl_visitUses_F]
    unfold impl_visitUses_B
    rw [ub_eq] at hn ⊢
    have L := vUses_L1 (v := v) (rec := impl_visitUses_F N f) hN hB hl (fun s hs => by have := step_le hs; unfold Bs at hb; omega) (fun s hs c hc => ih c (kid_bs hb hs hc).1 (by have := (kid_bs hb hs hc).2; omega)) (Nat.zero_le _) (by omega : b.steps.length - 0 < N) n (by rw [List.drop_zero]; omega)
    rw [show ((0 : Nat) : Int) = 0 from rfl, List.drop_zero] at L
    rw [sl_all _ hl]
    simp only [Option.bind_some]
    rw [L]
    simp only [Option.bind_some, impl_UsesOf_1]
    by_cases h : b.result = v
    · rw [if_pos (by simpa using h), if_pos h, w_id (by omega) (by omega)]
      simp only [Option.bind_some]
      congr 2; omega
    · rw [if_neg (by simpa using h), if_neg h]
      simp only [Option.bind_some]
      congr 2; omega

theorem UsesOf_both {b : Block} (hb : Bs b) (v : Int) {N : Nat} (hN : 2000000 ≤ N) : ∃ r, spec_UsesOf N b v = some r ∧ impl_UsesOf N b v = some r := by
  unfold spec_UsesOf impl_UsesOf
  rw [spec_stepsOf_eq hb hN, impl_StepsOf_eq hb hN]
  simp only [Option.bind_some]
  by_cases h : nst b ≤ 600
  · have hub := ub_le v b
    have hb' := hb
    unfold Bs at hb'
    rw [if_pos h, if_neg (by simp), if_neg (by simp), blockUses_eq hN hb]
    unfold impl_visitUses
    have := visitUses_F_eq hN (v := v) (B := 2000000) (by decide) N b hb (by omega) 0 (by omega)
    rw [show ((0 : Nat) : Int) = 0 from rfl, Nat.zero_add] at this
    rw [this]
    exact ⟨_, rfl, rfl⟩
  · rw [if_neg h]
    exact ⟨-1, rfl, rfl⟩

theorem FnExactUsesOf_plain {b : Block} {v : Int} (H : BlockIn b) (_ : I64 v) : laws_FnExactUsesOf 2000000 b v = some true := by
  unfold laws_FnExactUsesOf
  rw [szBlock_eq H (Nat.le_refl _)]
  simp only [Option.bind_some]
  by_cases hs : bsz b ≤ 1048576
  · have hb : Bs b := hs
    have e : lf 1048576 (bsz b) = 1048576 - (bsz b : Int) := by unfold lf; rw [if_neg (by omega)]
    obtain ⟨r, e1, e2⟩ := UsesOf_both hb v (Nat.le_refl 2000000)
    rw [e, if_neg (by simp; omega), toBlock_eq hb (Nat.le_refl _)]
    simp only [Option.bind_some]
    rw [e1, e2]
    simp [eqBlock_eq hb (Nat.le_refl 2000000)]
  · have e : lf 1048576 (bsz b) = -1 := by unfold lf; rw [if_pos (by omega)]
    rw [e]; rfl

/-! ### The last use -/

theorem s2Uses_L1 {s : Step} {v : Int} (ha : s.args.length ≤ 1048576) {N i : Nat} (hi : i ≤ s.args.length) (hN : s.args.length - i < N) : ∀ n : Int, 0 ≤ n → n ≤ 1048576 + i → spec_stepUses_2_L1 s v N n i = some (n + ua v (s.args.drop i)) := by
  refine loop_ind s.args.length (fun N i => ∀ n : Int, 0 ≤ n → n ≤ 1048576 + i → spec_stepUses_2_L1 s v N n i = some (n + ua v (s.args.drop i))) ?_ ?_ hi hN
  · intro f n _ _
    rw [spec_stepUses_2_L1, if_neg (by simp [len_def])]; simp [ua]
  · intro f i hi ih n h0 h1
    obtain ⟨x, hx, _⟩ := at_lt hi
    rw [spec_stepUses_2_L1, if_pos (by simp [len_def]; omega), get_lt hx, ua_drop hx]
    simp only [Option.bind_some]
    rw [w_id (n := (i : Int) + 1) (by omega) (by omega), show ((i : Int) + 1) = ((i + 1 : Nat) : Int) by omega]
    by_cases h : x = v
    · rw [if_pos (by simpa using h), if_pos h, w_id (by omega) (by omega)]
      simp only [Option.bind_some]
      rw [ih (n + 1) (by omega) (by omega)]
      congr 1; omega
    · rw [if_neg (by simpa using h), if_neg h]
      simp only [Option.bind_some]
      rw [ih n h0 (by omega)]
      congr 1; omega
theorem s2Uses_L2 {s : Step} {v : Int} {M : Nat} (hM : 2000000 ≤ M) {B : Nat} (hB : B ≤ 100000000) (hk : s.kids.length ≤ 1048576) (hb : ∀ c ∈ s.kids, Bs c) {N i : Nat} (hi : i ≤ s.kids.length) (hN : s.kids.length - i < N) : ∀ n : Nat, n + uk v (s.kids.drop i) ≤ B → spec_stepUses_2_L2 M s v N n i = some ((n + uk v (s.kids.drop i) : Nat) : Int) := by
  refine loop_ind s.kids.length (fun N i => ∀ n : Nat, n + uk v (s.kids.drop i) ≤ B → spec_stepUses_2_L2 M s v N n i = some ((n + uk v (s.kids.drop i) : Nat) : Int)) ?_ ?_ hi hN
  · intro f n _
    rw [spec_stepUses_2_L2, if_neg (by simp [len_def])]; simp [uk]
  · intro f i hi ih n hn
    obtain ⟨c, hc, hcm⟩ := at_lt hi
    rw [uk_drop hc] at hn ⊢
    rw [spec_stepUses_2_L2, if_pos (by simp [len_def]; omega), get_lt hc]
    simp only [Option.bind_some]
    rw [blockUses_eq hM (hb c hcm), w_id (n := (i : Int) + 1) (by omega) (by omega), show ((i : Int) + 1) = ((i + 1 : Nat) : Int) by omega]
    simp only [Option.bind_some]
    rw [w_id (by omega) (by omega), show ((n : Int) + (ub v c : Int)) = ((n + ub v c : Nat) : Int) by omega, ih (n + ub v c) (by omega)]
    congr 2; omega
theorem s2Uses_eq {N : Nat} (hN : 2000000 ≤ N) {s : Step} {v : Int} (hs : ssz s ≤ 1048576) : spec_stepUses_2 N s v = some (us v s : Int) := by
  have hsz := ssz_eq s
  have hus := us_le v s
  unfold spec_stepUses_2
  rw [ctg_spec, us_eq]
  simp only [Option.bind_some]
  rw [us_eq] at hus
  cases hc : ctg s.op with
  | true => simp
  | false =>
    rw [hc] at hus
    simp only [Bool.false_eq_true, if_false] at hus ⊢
    have l1 := s2Uses_L1 (v := v) (s := s) (by omega) (Nat.zero_le _) (by omega : s.args.length - 0 < N) 0 (by decide) (by omega)
    have l2 := s2Uses_L2 (v := v) (s := s) hN (B := 1048576) (by decide) (by omega) (fun c hc => by have := kid_le hc; unfold Bs; omega) (Nat.zero_le _) (by omega : s.kids.length - 0 < N) (ua v s.args) (by rw [List.drop_zero]; omega)
    rw [show ((0 : Nat) : Int) = 0 from rfl, List.drop_zero] at l1 l2
    rw [l1]
    simp only [Option.bind_some]
    rw [Int.zero_add, l2]; rfl

theorem or_pos (f : Bool) (a b : Nat) : (f || decide (0 < a + b)) = ((f || decide (0 < a)) || decide (0 < b)) := by
  cases f
  · simp only [Bool.false_or]
    by_cases h1 : 0 < a <;> by_cases h2 : 0 < b <;> simp [h1, h2] <;> omega
  · simp
theorem sU1 (f : Bool) (v x : Int) : impl_stepUses_1 f v x = some (f || decide (0 < (if x = v then 1 else 0 : Nat))) := by
  unfold impl_stepUses_1
  cases f
  · by_cases h : x = v <;> simp [h]
  · simp
theorem fStep_L1 {s : Step} {v : Int} (ha : s.args.length ≤ 1048576) {N i : Nat} (hi : i ≤ s.args.length) (hN : s.args.length - i < N) : ∀ f : Bool, impl_visitStep_2_B_L1 v s N i f = some (f || decide (0 < ua v (s.args.drop i))) := by
  refine loop_ind s.args.length (fun N i => ∀ f : Bool, impl_visitStep_2_B_L1 v s N i f = some (f || decide (0 < ua v (s.args.drop i)))) ?_ ?_ hi hN
  · intro n f
    rw [impl_visitStep_2_B_L1, if_neg (by simp [len_def])]; simp [ua]
  · intro n i hi ih f
    obtain ⟨x, hx, _⟩ := at_lt hi
    rw [impl_visitStep_2_B_L1, if_pos (by simp [len_def]; omega), get_lt hx, ua_drop hx]
    simp only [Option.bind_some]
    rw [w_id (n := (i : Int) + 1) (by omega) (by omega), show ((i : Int) + 1) = ((i + 1 : Nat) : Int) by omega, sU1]
    simp only [Option.bind_some]
    rw [ih, ← or_pos]
theorem fUses_L1 {l : List Step} {v : Int} {rec : Bool → Int → Step → Option (Bool × Int)} (hl : l.length ≤ 1048576) (hrec : ∀ s ∈ l, ∀ f : Bool, rec f v s = some (f || decide (0 < us v s), v)) {N i : Nat} (hi : i ≤ l.length) (hN : l.length - i < N) : ∀ f : Bool, impl_visitUses_2_L1 l rec N i f v = some (f || decide (0 < ul v (l.drop i)), v) := by
  refine loop_ind l.length (fun N i => ∀ f : Bool, impl_visitUses_2_L1 l rec N i f v = some (f || decide (0 < ul v (l.drop i)), v)) ?_ ?_ hi hN
  · intro n f
    rw [impl_visitUses_2_L1, if_neg (by simp [len_def])]; simp [ul]
  · intro n i hi ih f
    obtain ⟨s, hs, hsm⟩ := at_lt hi
    rw [impl_visitUses_2_L1, if_pos (by simp [len_def]; omega), get_lt hs, ul_drop hs]
    simp only [Option.bind_some]
    rw [hrec s hsm, w_id (n := (i : Int) + 1) (by omega) (by omega), show ((i : Int) + 1) = ((i + 1 : Nat) : Int) by omega]
    simp only [Option.bind_some]
    rw [ih, ← or_pos]
theorem fUses_eq {N : Nat} (hN : 2000000 ≤ N) {b : Block} {v : Int} {rec : Bool → Int → Step → Option (Bool × Int)} (hb : Bs b) (hrec : ∀ s ∈ b.steps, ∀ f : Bool, rec f v s = some (f || decide (0 < us v s), v)) (f : Bool) : impl_visitUses_2 N rec f v b 0 = some (f || decide (0 < ub v b), v) := by
  have hl := hb.len
  unfold impl_visitUses_2
  rw [sl_all _ hl]
  simp only [Option.bind_some]
  have L := fUses_L1 (v := v) hl hrec (Nat.zero_le _) (by omega : b.steps.length - 0 < N) f
  rw [show ((0 : Nat) : Int) = 0 from rfl, List.drop_zero] at L
  rw [L]
  simp only [Option.bind_some]
  rw [sU1, ub_eq, Nat.add_comm, or_pos]; rfl
theorem fStep_L2 {s : Step} {v : Int} {rec : Bool → Int → Step → Option (Bool × Int)} {M : Nat} (hM : 2000000 ≤ M) (hk : s.kids.length ≤ 1048576) (hb : ∀ c ∈ s.kids, Bs c) (hrec : ∀ c ∈ s.kids, ∀ t ∈ c.steps, ∀ f : Bool, rec f v t = some (f || decide (0 < us v t), v)) {N i : Nat} (hi : i ≤ s.kids.length) (hN : s.kids.length - i < N) : ∀ f : Bool, impl_visitStep_2_B_L2 M s rec N i f v = some (f || decide (0 < uk v (s.kids.drop i)), v) := by
  refine loop_ind s.kids.length (fun N i => ∀ f : Bool, impl_visitStep_2_B_L2 M s rec N i f v = some (f || decide (0 < uk v (s.kids.drop i)), v)) ?_ ?_ hi hN
  · intro n f
    rw [impl_visitStep_2_B_L2, if_neg (by simp [len_def])]; simp [uk]
  · intro n i hi ih f
    obtain ⟨c, hc, hcm⟩ := at_lt hi
    rw [impl_visitStep_2_B_L2, if_pos (by simp [len_def]; omega), get_lt hc, uk_drop hc]
    simp only [Option.bind_some]
    rw [fUses_eq hM (hb c hcm) (hrec c hcm), w_id (n := (i : Int) + 1) (by omega) (by omega), show ((i : Int) + 1) = ((i + 1 : Nat) : Int) by omega]
    simp only [Option.bind_some]
    rw [ih, ← or_pos]
theorem fStep_F_eq {N : Nat} (hN : 2000000 ≤ N) {v : Int} : ∀ (n : Nat) (s : Step), ssz s ≤ 1048576 → ssz s < n → ∀ f : Bool, impl_visitStep_2_F N n f v s = some (f || decide (0 < us v s), v) := by
  intro n
  induction n with
  | zero => intro s _ h; omega
  | succ n ih =>
    intro s hs hn f
    have hsz := ssz_eq s
    rw [impl_visitStep_2_F]
    unfold impl_visitStep_2_B
    rw [ctg_impl, us_eq]
    simp only [Option.bind_some]
    cases hc : ctg s.op with
    | true => simp
    | false =>
      simp only [Bool.false_eq_true, if_false]
      have l1 := fStep_L1 (v := v) (s := s) (by omega) (Nat.zero_le _) (by omega : s.args.length - 0 < N) f
      have l2 := fStep_L2 (v := v) (s := s) (rec := impl_visitStep_2_F N n) hN (by omega) (fun c hc => by have := kid_le hc; unfold Bs; omega) (fun c hc t ht => ih t (by have := kid_le hc; have := step_le ht; omega) (by have := kid_le hc; have := step_le ht; omega)) (Nat.zero_le _) (by omega : s.kids.length - 0 < N) (f || decide (0 < ua v s.args))
      rw [show ((0 : Nat) : Int) = 0 from rfl, List.drop_zero] at l1 l2
      rw [l1]
      simp only [Option.bind_some]
      rw [l2, or_pos]; rfl
theorem iStepUses_eq {N : Nat} (hN : 2000000 ≤ N) {v : Int} {s : Step} (hs : ssz s ≤ 1048576) : impl_stepUses N s v = some (decide (0 < us v s)) := by
  unfold impl_stepUses impl_visitStep_2
  rw [fStep_F_eq hN N s hs (by omega)]; simp

theorem Last_L1 {b : Block} (hb : Bs b) {v : Int} {M : Nat} (hM : 2000000 ≤ M) : ∀ (k N : Nat), k ≤ b.steps.length → k < N → ∃ r, spec_LastUse_L1 M b v N ((k : Int) - 1) = some r ∧ impl_LastUse_L1 M b v N ((k : Int) - 1) = some r := by
  have hl := hb.len
  intro k
  induction k with
  | zero =>
    intro N _ hN
    obtain ⟨N', rfl⟩ : ∃ N', N = N' + 1 := ⟨N - 1, by omega⟩
    exact ⟨Sum.inr (), by rw [spec_LastUse_L1, if_neg (by simp)], by rw [impl_LastUse_L1, if_neg (by simp)]⟩
  | succ k ih =>
    intro N hk hN
    obtain ⟨N', rfl⟩ : ∃ N', N = N' + 1 := ⟨N - 1, by omega⟩
    obtain ⟨s, hs, hsm⟩ := at_lt (l := b.steps) (i := k) (by omega)
    have hss : ssz s ≤ 1048576 := by have := step_le hsm; unfold Bs at hb; omega
    rw [show (((k + 1 : Nat) : Int) - 1) = (k : Int) by omega, spec_LastUse_L1, impl_LastUse_L1, if_pos (by simp), if_pos (by simp), get_lt hs]
    simp only [Option.bind_some]
    rw [s2Uses_eq hM hss, iStepUses_eq hM hss, w_id (by omega) (by omega)]
    simp only [Option.bind_some]
    by_cases h : 0 < us v s
    · rw [if_pos (by simp; omega), if_pos (by simpa using h)]
      exact ⟨_, rfl, rfl⟩
    · rw [if_neg (by simp; omega), if_neg (by simpa using h)]
      exact ih N' (by omega) (by omega)
theorem LastUse_both {b : Block} (hb : Bs b) (v : Int) {N : Nat} (hN : 2000000 ≤ N) : ∃ r, spec_LastUse N b v = some r ∧ impl_LastUse N b v = some r := by
  have hl := hb.len
  unfold spec_LastUse impl_LastUse
  rw [spec_stepsOf_eq hb hN, impl_StepsOf_eq hb hN]
  simp only [Option.bind_some]
  by_cases h : nst b ≤ 600
  · have hneg : ¬ decide ((nst b : Int) < 0) = true := by simp
    rw [if_pos h, if_neg hneg, if_neg hneg]
    by_cases h2 : b.result = v
    · exact ⟨Sh.len b.steps, by simp [h2], by simp [h2]⟩
    · have hb2 : ¬ decide (b.result = v) = true := by simpa using h2
      rw [if_neg hb2, if_neg hb2, len_def, w_id (by omega) (by omega)]
      obtain ⟨r, e1, e2⟩ := Last_L1 hb (v := v) hN b.steps.length N (Nat.le_refl _) (by omega)
      rw [e1, e2]
      cases r with
      | inl r => exact ⟨r, rfl, rfl⟩
      | inr r => exact ⟨-1, rfl, rfl⟩
  · rw [if_neg h]
    exact ⟨-1, rfl, rfl⟩

theorem FnExactLastUse_plain {b : Block} {v : Int} (H : BlockIn b) (_ : I64 v) : laws_FnExactLastUse 2000000 b v = some true := by
  unfold laws_FnExactLastUse
  rw [szBlock_eq H (Nat.le_refl _)]
  simp only [Option.bind_some]
  by_cases hs : bsz b ≤ 1048576
  · have hb : Bs b := hs
    have e : lf 1048576 (bsz b) = 1048576 - (bsz b : Int) := by unfold lf; rw [if_neg (by omega)]
    obtain ⟨r, e1, e2⟩ := LastUse_both hb v (Nat.le_refl 2000000)
    rw [e, if_neg (by simp; omega), toBlock_eq hb (Nat.le_refl _)]
    simp only [Option.bind_some]
    rw [e1, e2]
    simp [eqBlock_eq hb (Nat.le_refl 2000000)]
  · have e : lf 1048576 (bsz b) = -1 := by unfold lf; rw [if_pos (by omega)]
    rw [e]; rfl
end RC
