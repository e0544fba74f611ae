import Derived.Test.YtpahalfiiahddaaPlainB
import Derived.Test.YtpahalfiiahddaaGPlainAToXMF
import Derived.Test.YtpahalfiiahddaaSADefs

namespace RC
open Go
mutual
def ssz : Step → Nat | .mk _ _ _ a k => a.length + k.length + ksz k
def ksz : List (BlockOf Step) → Nat | [] => 0 | b :: k => bsz b + ksz k
def bsz : BlockOf Step → Nat | ⟨ss, _⟩ => ss.length + lsz ss
def lsz : List Step → Nat | [] => 0 | s :: l => ssz s + lsz l
end
theorem ssz_eq (s : Step) : ssz s = s.args.length + s.kids.length + ksz s.kids := by cases s; simp [ssz, Step.args, Step.kids]
theorem bsz_eq (b : Block) : bsz b = b.steps.length + lsz b.steps := by cases b; simp [bsz]
theorem ksz_drop {k : List Block} {i : Nat} {b : Block} (h : k[i]? = some b) : ksz (k.drop i) = bsz b + ksz (k.drop (i + 1)) := by rw [drop_cons h]; simp [ksz]
theorem lsz_drop {l : List Step} {i : Nat} {s : Step} (h : l[i]? = some s) : lsz (l.drop i) = ssz s + lsz (l.drop (i + 1)) := by rw [drop_cons h]; simp [lsz]
theorem ksz_mem {k : List Block} {b : Block} (h : b ∈ k) : bsz b ≤ ksz k := by
 induction k with
 | nil => cases h
 | cons c k ih =>
  simp only [ksz]
  rcases List.mem_cons.1 h with rfl | h
  ·omega
  ·have := ih h; omega
theorem lsz_mem {l : List Step} {s : Step} (h : s ∈ l) : ssz s ≤ lsz l := by
 induction l with
 | nil => cases h
 | cons c l ih =>
  simp only [lsz]
  rcases List.mem_cons.1 h with rfl | h
  ·omega
  ·have := ih h; omega
inductive StepIn : Step → Prop where
 | mk {s : Step} : I64 s.op → I64 s.num → I64 s.into → ListIn I64 s.args → s.kids.length ≤ 9223372036854775807 → (∀ b ∈ s.kids, b.steps.length ≤ 9223372036854775807) → (∀ b ∈ s.kids, I64 b.result) → (∀ b ∈ s.kids, ∀ t ∈ b.steps, StepIn t) → StepIn s
structure BlockIn (b : Block) : Prop where
 steps : ListIn StepIn b.steps
 result : I64 b.result
theorem StepIn.args {s : Step} (h : StepIn s) : ListIn I64 s.args := by cases h; assumption
theorem StepIn.klen {s : Step} (h : StepIn s) : s.kids.length ≤ 9223372036854775807 := by cases h; assumption
theorem StepIn.kids {s : Step} (h : StepIn s) : ∀ b ∈ s.kids, BlockIn b := by
 cases h with
 | mk _ _ _ _ _ h1 h2 h3 => exact fun b hb => ⟨⟨h3 b hb, h1 b hb⟩, h2 b hb⟩
def lf (left : Int) (s : Nat) : Int := if left - s < 0 then -1 else left - s
theorem szBlockS_L1_eq {rec : Block → Int → Option Int} {k : List Block} {L : Int} (hk : k.length ≤ 1048576) (hrec : ∀ b ∈ k, ∀ left : Int, 0 ≤ left → left ≤ L → rec b left = some (lf left (bsz b))) {N i : Nat} (hi : i ≤ k.length) (hN : k.length - i < N) :
  ∀ left : Int, 0 ≤ left → left ≤ L → laws_szBlockS_L1 k rec N left i = some (if left - ksz (k.drop i) < 0 then Sum.inl (-1) else Sum.inr (left - ksz (k.drop i))) := by
 refine loop_ind k.length (fun N i => ∀ left : Int, 0 ≤ left → left ≤ L → laws_szBlockS_L1 k rec N left i = some (if left - ksz (k.drop i) < 0 then Sum.inl (-1) else Sum.inr (left - ksz (k.drop i)))) ?_ ?_ hi hN
 ·intro n left h0 h1
  rw [laws_szBlockS_L1, if_neg (by simp [len_def])]
  simp [ksz]; omega
 ·intro n i hi ih left h0 h1
  obtain ⟨b, hb, hbm⟩ := at_lt hi
  rw [laws_szBlockS_L1, if_pos (by simp [len_def]; omega), get_lt hb]
  simp only [Option.bind_some]
  rw [hrec b hbm left h0 h1, ksz_drop hb]
  simp only [Option.bind_some]
  unfold lf
  by_cases h2 : left - bsz b < 0
  ·simp only [h2, if_true]
   rw [if_pos (by simp), if_pos (by omega)]
  ·simp only [h2, if_false]
   rw [if_neg (by simp), w_id (by omega) (by omega), show ((i : Int) + 1) = ((i + 1 : Nat) : Int) by omega, ih (left - bsz b) (by omega) (by omega)]
   have e : left - (bsz b : Int) - ksz (k.drop (i + 1)) = left - ((bsz b + ksz (k.drop (i + 1)) : Nat) : Int) := by omega
   rw [e]
theorem szBlockS_eq {N : Nat} (hN : 2000000 ≤ N) {rec : Block → Int → Option Int} {k : List Block} (hk : k.length ≤ 9223372036854775807) {left : Int} (h0 : 0 ≤ left) (h1 : left ≤ 1048576)
  (hrec : ∀ b ∈ k, ∀ l : Int, 0 ≤ l → l ≤ left - k.length → rec b l = some (lf l (bsz b))) : laws_szBlockS N rec k left = some (lf left (k.length + ksz k)) := by
 unfold laws_szBlockS
 rw [len_def, w_id (by omega) (by omega)]
 unfold lf
 by_cases h2 : left - (k.length : Int) < 0
 ·rw [if_pos (by simpa using h2), if_pos (by omega)]
 ·rw [if_neg (by simpa using h2)]
  have := szBlockS_L1_eq (by omega) hrec (Nat.zero_le _) (by omega : k.length - 0 < N) (left - k.length) (by omega) (Int.le_refl _)
  rw [show ((0 : Nat) : Int) = 0 from rfl, List.drop_zero] at this
  rw [this]
  by_cases h3 : left - (k.length : Int) - ksz k < 0
  ·rw [if_pos h3, if_pos (by omega)]; rfl
  ·rw [if_neg h3, if_neg (by omega)]
   simp only [Sh.cont_inr]
   congr 1; omega
theorem szStep_eq {N : Nat} (hN : 2000000 ≤ N) {rec : Block → Int → Option Int} {s : Step} (hs : StepIn s) {left : Int} (h0 : 0 ≤ left) (h1 : left ≤ 1048576)
  (hrec : ∀ b ∈ s.kids, ∀ l : Int, 0 ≤ l → l < left → rec b l = some (lf l (bsz b))) : laws_szStep N rec s left = some (lf left (ssz s)) := by
 unfold laws_szStep
 rw [szIntS_eq h0 h1 hs.args.2, ssz_eq]
 simp only [Option.bind_some]
 by_cases h2 : left - (s.args.length : Int) < 0
 ·have : left - ((s.args.length + s.kids.length + ksz s.kids : Nat) : Int) < 0 := by omega
  simp only [lf, if_pos h2, if_pos this]; rfl
 ·rw [if_neg h2, if_neg (by simpa using h2), szBlockS_eq hN hs.klen (by omega) (by omega) (fun b hb l l0 l1 => hrec b hb l l0 (by
   have : 0 < s.kids.length := List.length_pos_of_mem hb
   omega))]
  simp only [Option.bind_some]
  have e : lf (left - (s.args.length : Int)) (s.kids.length + ksz s.kids) = lf left (s.args.length + s.kids.length + ksz s.kids) := by
   unfold lf
   have e : left - (s.args.length : Int) - ((s.kids.length + ksz s.kids : Nat) : Int) = left - ((s.args.length + s.kids.length + ksz s.kids : Nat) : Int) := by omega
   rw [e]
  rw [e]
  unfold lf
  split <;> simp <;> omega
theorem szStepS_L1_eq {M : Nat} (hM : 2000000 ≤ M) {rec : Block → Int → Option Int} {l : List Step} {L : Int} (hL : L ≤ 1048576) (hk : l.length ≤ 1048576) (hs : ∀ s ∈ l, StepIn s) (hrec : ∀ s ∈ l, ∀ b ∈ s.kids, ∀ left : Int, 0 ≤ left → left < L → rec b left = some (lf left (bsz b))) {N i : Nat} (hi : i ≤ l.length) (hN : l.length - i < N) :
  ∀ left : Int, 0 ≤ left → left ≤ L → laws_szStepS_L1 M l rec N left i = some (if left - lsz (l.drop i) < 0 then Sum.inl (-1) else Sum.inr (left - lsz (l.drop i))) := by
 refine loop_ind l.length (fun N i => ∀ left : Int, 0 ≤ left → left ≤ L → laws_szStepS_L1 M l rec N left i = some (if left - lsz (l.drop i) < 0 then Sum.inl (-1) else Sum.inr (left - lsz (l.drop i)))) ?_ ?_ hi hN
 ·intro n left h0 h1
  rw [laws_szStepS_L1, if_neg (by simp [len_def])]
  simp [lsz]; omega
 ·intro n i hi ih left h0 h1
  obtain ⟨b, hb, hbm⟩ := at_lt hi
  rw [laws_szStepS_L1, if_pos (by simp [len_def]; omega), get_lt hb]
  simp only [Option.bind_some]
  rw [szStep_eq hM (hs b hbm) h0 (by omega) (fun c hc l' l0 l1 => hrec b hbm c hc l' l0 (by omega)), lsz_drop hb]
  simp only [Option.bind_some]
  unfold lf
  by_cases h2 : left - ssz b < 0
  ·simp only [h2, if_true]
   rw [if_pos (by simp), if_pos (by omega)]
  ·simp only [h2, if_false]
   rw [if_neg (by simp), w_id (by omega) (by omega), show ((i : Int) + 1) = ((i + 1 : Nat) : Int) by omega, ih (left - ssz b) (by omega) (by omega)]
   have e : left - (ssz b : Int) - lsz (l.drop (i + 1)) = left - ((ssz b + lsz (l.drop (i + 1)) : Nat) : Int) := by omega
   rw [e]
theorem szBlock_F_eq {N : Nat} (hN : 2000000 ≤ N) : ∀ (n : Nat) (b : Block) (left : Int), BlockIn b → 0 ≤ left → left ≤ 1048576 → left < n → laws_szBlock_F N n b left = some (lf left (bsz b)) := by
 intro n
 induction n with
 | zero => intro b left _ h0 _ h2; omega
 | succ n ih =>
  intro b left hb h0 h1 h2
  rw [laws_szBlock_F]
  unfold laws_szBlock_B laws_szStepS
  have hl := hb.steps.2
  rw [len_def, w_id (by omega) (by omega), bsz_eq]
  by_cases h3 : left - (b.steps.length : Int) < 0
  ·have : left - ((b.steps.length + lsz b.steps : Nat) : Int) < 0 := by omega
   rw [if_pos (by simpa using h3)]
   simp only [lf, if_pos this]; rfl
  ·rw [if_neg (by simpa using h3)]
   have := szStepS_L1_eq hN (rec := laws_szBlock_F N n) (l := b.steps) (L := left - b.steps.length) (by omega) (by omega) hb.steps.1 (fun s hs c hc l l0 l1 => ih c l ((hb.steps.1 s hs).kids c hc) l0 (by omega) (by have := List.length_pos_of_mem hs; omega)) (Nat.zero_le _) (by omega : b.steps.length - 0 < N) (left - b.steps.length) (by omega) (Int.le_refl _)
   rw [show ((0 : Nat) : Int) = 0 from rfl, List.drop_zero] at this
   rw [this]
   unfold lf
   by_cases h5 : left - (b.steps.length : Int) - lsz b.steps < 0
   ·rw [if_pos h5, if_pos (by omega)]; rfl
   ·rw [if_neg h5, if_neg (by omega)]
    simp only [Sh.cont_inr, Option.bind_some]
    rw [if_neg (by simp; omega)]
    congr 1; omega
theorem szBlock_eq {b : Block} (hb : BlockIn b) {N : Nat} (hN : 2000000 ≤ N) : laws_szBlock N b 1048576 = some (lf 1048576 (bsz b)) := by
 unfold laws_szBlock
 exact szBlock_F_eq hN N b _ hb (by decide) (by decide) (by omega)
end RC

