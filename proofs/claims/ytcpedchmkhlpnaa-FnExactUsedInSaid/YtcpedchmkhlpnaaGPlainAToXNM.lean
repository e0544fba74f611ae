import Derived.Test.YtcpedchmkhlpnaaGEncToEncB
import Derived.Test.YtcpedchmkhlpnaaGEncCToUGDefs

namespace RC
open Go
theorem w_id {n : Int} (h1 : -9223372036854775808 ≤ n) (h2 : n ≤ 9223372036854775807) : Sh.w n = n := Abs.wrap_i64 h1 h2
theorem len_def {α : Type} (l : List α) : Sh.len l = (l.length : Int) := rfl
theorem get_nat {α : Type} (l : List α) (i : Nat) : Sh.get l (i : Int) = l[i]? := by
 unfold Sh.get; rw [if_pos (Int.natCast_nonneg i)]; simp
theorem get_lt {α : Type} {l : List α} {i : Nat} {x : α} (h : l[i]? = some x) : Sh.get l (i : Int) = some x := by rw [get_nat, h]
theorem put_nat {α : Type} (l : List α) (i : Nat) (x : α) : Sh.put l (i : Int) x = l.set i x := by simp [Sh.put]
theorem mk_ok {α : Type} (x : α) (n b : Nat) (h : n * b ≤ 281474976710656) (h2 : n ≤ 9223372036854775807) : Sh.mk x (n : Int) b = some (List.replicate n x) := by
 unfold Sh.mk
 rw [if_pos ⟨by omega, by rw [← Int.natCast_mul]; omega, by omega⟩]; simp
theorem app_ok {α : Type} (l m : List α) (b : Nat) (h : (l.length + m.length) * b ≤ 140737488355328) (h2 : l.length + m.length ≤ 9223372036854775807) : Sh.app l m b = some (l ++ m) := by
 unfold Sh.app; rw [if_pos ⟨h, h2⟩]
theorem loop_ind (len : Nat) (P : Nat → Nat → Prop) (h0 : ∀ n, P (n + 1) len) (hs : ∀ n i, i < len → P n (i + 1) → P (n + 1) i) : ∀ {N i : Nat}, i ≤ len → len - i < N → P N i := by
 intro N i hi hN
 obtain ⟨k, hk⟩ : ∃ k, len - i = k := ⟨_, rfl⟩
 induction k generalizing N i with
 | zero =>
  obtain ⟨n, rfl⟩ : ∃ n, N = n + 1 := ⟨N - 1, by omega⟩
  have : i = len := by omega
  subst this; exact h0 n
 | succ k ih =>
  obtain ⟨n, rfl⟩ : ∃ n, N = n + 1 := ⟨N - 1, by omega⟩
  exact hs n i (by omega) (ih (by omega) (by omega) (by omega))
theorem at_lt {α : Type} {l : List α} {i : Nat} (h : i < l.length) : ∃ x, l[i]? = some x ∧ x ∈ l := ⟨l[i], List.getElem?_eq_getElem h, List.getElem_mem h⟩
theorem take_snoc {α : Type} {l : List α} {j : Nat} {x : α} (h : l[j]? = some x) : l.take (j + 1) = l.take j ++ [x] := by rw [List.take_add_one, h]; rfl
theorem drop_cons {α : Type} {l : List α} {j : Nat} {x : α} (h : l[j]? = some x) : l.drop j = x :: l.drop (j + 1) := by
 obtain ⟨hj, rfl⟩ := List.getElem?_eq_some_iff.1 h
 exact List.drop_eq_getElem_cons hj
def fsum (h : List Cell) : Nat := (h.map fun c => c.fields.length).sum
def hsize (h : List Cell) : Nat := h.length + fsum h
structure Hp (h : List Cell) : Prop where
 size : hsize h ≤ 1048576
 cells : ∀ c ∈ h, CellIn c
theorem fsum_mem {h : List Cell} {c : Cell} (hc : c ∈ h) : c.fields.length ≤ fsum h := by
 induction h with
 | nil => cases hc
 | cons d h ih =>
  simp only [fsum, List.map_cons, List.sum_cons] at ih ⊢
  rcases List.mem_cons.1 hc with rfl | hc
  ·omega
  ·have := ih hc; omega
theorem Hp.len {h : List Cell} (H : Hp h) : h.length ≤ 1048576 := by have := H.size; unfold hsize at this; omega
theorem Hp.flen {h : List Cell} (H : Hp h) {c : Cell} (hc : c ∈ h) : c.fields.length ≤ 1048576 := by have := H.size; have := fsum_mem hc; unfold hsize at *; omega
end RC



namespace RC
open Go
end RC


namespace RC
open Go
theorem szIntS_eq {l : List Int} {left : Int} (h0 : 0 ≤ left) (h1 : left ≤ 1048576) (hl : l.length ≤ 9223372036854775807) : laws_szIntS l left = some (if left - l.length < 0 then -1 else left - l.length) := by
 unfold laws_szIntS
 rw [len_def, w_id (by omega) (by omega)]
 by_cases h : left - l.length < 0 <;> simp [h]
theorem toIntS_L1_eq {l : List Int} (hl : l.length ≤ 1048576) {N i : Nat} (hi : i ≤ l.length) (hN : l.length - i < N) : ∀ m : List Int, m.length = l.length → m.take i = l.take i → laws_toIntS_L1 l N i m = some l := by
 refine loop_ind l.length (fun N i => ∀ m : List Int, m.length = l.length → m.take i = l.take i → laws_toIntS_L1 l N i m = some l) ?_ ?_ hi hN
 ·intro n m hm ht
  rw [laws_toIntS_L1, if_neg (by simp [len_def])]
  rw [List.take_of_length_le (by omega), List.take_length] at ht
  rw [ht]
 ·intro n i hi ih m hm ht
  obtain ⟨x, hx, _⟩ := at_lt hi
  obtain ⟨y, hy, _⟩ := at_lt (l := m) (i := i) (by omega)
  rw [laws_toIntS_L1, if_pos (by simp [len_def]; omega), get_lt hx]
  simp only [Option.bind_some]
  rw [get_lt hy]
  simp only [Option.bind_some]
  rw [w_id (by omega) (by omega), put_nat, show ((i : Int) + 1) = ((i + 1 : Nat) : Int) by omega]
  refine ih _ (by simp [hm]) ?_
  rw [take_snoc hx, take_snoc (x := x) (by rw [List.getElem?_set]; simp; omega), List.take_set_of_le (Nat.le_refl _), ht]
theorem toIntS_eq {l : List Int} (hl : l.length ≤ 1048576) {N : Nat} (hN : 2000000 ≤ N) : laws_toIntS N l = some l := by
 unfold laws_toIntS
 rw [len_def, mk_ok 0 l.length 8 (by omega) (by omega)]
 simp only [Option.bind_some]
 have := toIntS_L1_eq hl (Nat.zero_le _) (by omega : l.length - 0 < N) (List.replicate l.length 0) (by simp) (by simp)
 rw [show ((0 : Nat) : Int) = 0 from rfl] at this
 rw [this]; rfl
theorem eqIntS_L1_eq {l : List Int} (hl : l.length ≤ 1048576) {N i : Nat} (hi : i ≤ l.length) (hN : l.length - i < N) : laws_eqIntS_L1 l l N i = some (Sum.inr ()) := by
 refine loop_ind l.length (fun N i => laws_eqIntS_L1 l l N i = some (Sum.inr ())) ?_ ?_ hi hN
 ·intro n
  rw [laws_eqIntS_L1, if_neg (by simp [len_def])]
 ·intro n i hi ih
  obtain ⟨x, hx, _⟩ := at_lt hi
  rw [laws_eqIntS_L1, if_pos (by simp [len_def]; omega), get_lt hx]
  simp only [Option.bind_some]
  rw [w_id (by omega) (by omega), show ((i : Int) + 1) = ((i + 1 : Nat) : Int) by omega]
  simpa using ih
theorem eqIntS_eq {l : List Int} (hl : l.length ≤ 1048576) {N : Nat} (hN : 2000000 ≤ N) : laws_eqIntS N l l = some true := by
 unfold laws_eqIntS
 have := eqIntS_L1_eq hl (Nat.zero_le _) (by omega : l.length - 0 < N)
 rw [show ((0 : Nat) : Int) = 0 from rfl] at this
 simp [this]
end RC


namespace RC
open Go
theorem inRange_eq (a b c : Int) : spec_inRange a b c = some (decide (b ≤ a) && decide (a ≤ c)) := by
 unfold spec_inRange
 by_cases h : b ≤ a <;> simp [h]
end RC



namespace RC
open Go
end RC



namespace RC
open Go
end RC
namespace RC
open Go
end RC



namespace RC
open Go
end RC
namespace RC
open Go
end RC
namespace RC
open Go
end RC
namespace RC
open Go
end RC



namespace RC
open Go
end RC



namespace RC
open Go
end RC
namespace RC
open Go
end RC



namespace RC
open Go
end RC


namespace RC
open Go
end RC



namespace RC
open Go
section
variable {im : RImage} {p : RProc} {at_ : Nat} {i : RInstr} {N : Nat}
end
end RC



namespace RC
open Go
end RC



namespace RC
open Go
end RC



namespace RC
open Go
end RC



namespace RC
open Go
end RC



namespace RC
open Go
section
variable {p : RProgram} {sg : RSignatures} {R1 : RProgram → List Int → RExpr → Option Int} {R2 : List Int → RSignatures → RExpr → Option Int} {T : List Int → RExpr → Int} {e : RExpr} {v : List Int} {N : Nat}
end
end RC



namespace RC
open Go
section
variable {p : RProgram} {sg : RSignatures} {R1 : RProgram → List Int → RExpr → Option Int} {R2 : List Int → RSignatures → RExpr → Option Int} {T : List Int → RExpr → Int} {e : RExpr} {v : List Int} {N : Nat}
end
end RC



namespace RC
open Go
section
variable {p : RProgram} {R1 : RProgram → List Int → RExpr → Option Int} {R2 : List Int → RSignatures → RExpr → Option Int} {T : List Int → RExpr → Int} {e : RExpr} {v : List Int} {N : Nat}
end
end RC



namespace RC
open Go
section
variable {p : RProgram} {R1 : RProgram → List Int → RExpr → Option Int} {R2 : List Int → RSignatures → RExpr → Option Int} {T : List Int → RExpr → Int} {e : RExpr} {v : List Int} {N : Nat}
end
end RC



namespace RC
open Go
section
variable {p : RProgram} {R1 : RProgram → List Int → RExpr → Option Int} {R2 : List Int → RSignatures → RExpr → Option Int} {T : List Int → RExpr → Int} {e : RExpr} {v : List Int} {N : Nat}
end
end RC



namespace RC
open Go
end RC



namespace RC
open Go
end RC



namespace RC
open Go
mutual
def ssz : Step → Nat | .mk _ _ _ a k => a.length + k.length + ksz k
def ksz : List (BlockOf Step) → Nat | [] => 0 | b :: k => bsz b + ksz k
def bsz : BlockOf Step → Nat | ⟨ss, _⟩ => ss.length + lsz ss
def lsz : List Step → Nat | [] => 0 | s :: l => ssz s + lsz l
end
theorem ssz_eq (s : Step) : ssz s = s.args.length + s.kids.length + ksz s.kids := by cases s; simp [ssz, Step.args, Step.kids]
theorem bsz_eq (b : Block) : bsz b = b.steps.length + lsz b.steps := by cases b; simp [bsz]
theorem ksz_drop {k : List Block} {i : Nat} {b : Block} (h : k[i]? = some b) : ksz (k.drop i) = bsz b + ksz (k.drop (i + 1)) := by rw [drop_cons h]; simp [ksz]
theorem lsz_drop {l : List Step} {i : Nat} {s : Step} (h : l[i]? = some s) : lsz (l.drop i) = ssz s + lsz (l.drop (i + 1)) := by rw [drop_cons h]; simp [lsz]
theorem ksz_mem {k : List Block} {b : Block} (h : b ∈ k) : bsz b ≤ ksz k := by
 induction k with
 | nil => cases h
 | cons c k ih =>
  simp only [ksz]
  rcases List.mem_cons.1 h with rfl | h
  ·omega
  ·have := ih h; omega
theorem lsz_mem {l : List Step} {s : Step} (h : s ∈ l) : ssz s ≤ lsz l := by
 induction l with
 | nil => cases h
 | cons c l ih =>
  simp only [lsz]
  rcases List.mem_cons.1 h with rfl | h
  ·omega
  ·have := ih h; omega
inductive StepIn : Step → Prop where
 | mk {s : Step} : I64 s.op → I64 s.num → I64 s.into → ListIn I64 s.args → s.kids.length ≤ 9223372036854775807 → (∀ b ∈ s.kids, b.steps.length ≤ 9223372036854775807) → (∀ b ∈ s.kids, I64 b.result) → (∀ b ∈ s.kids, ∀ t ∈ b.steps, StepIn t) → StepIn s
structure BlockIn (b : Block) : Prop where
 steps : ListIn StepIn b.steps
 result : I64 b.result
theorem StepIn.args {s : Step} (h : StepIn s) : ListIn I64 s.args := by cases h; assumption
theorem StepIn.klen {s : Step} (h : StepIn s) : s.kids.length ≤ 9223372036854775807 := by cases h; assumption
theorem StepIn.kids {s : Step} (h : StepIn s) : ∀ b ∈ s.kids, BlockIn b := by
 cases h with
 | mk _ _ _ _ _ h1 h2 h3 => exact fun b hb => ⟨⟨h3 b hb, h1 b hb⟩, h2 b hb⟩
def lf (left : Int) (s : Nat) : Int := if left - s < 0 then -1 else left - s
theorem szBlockS_L1_eq {rec : Block → Int → Option Int} {k : List Block} {L : Int} (hk : k.length ≤ 1048576) (hrec : ∀ b ∈ k, ∀ left : Int, 0 ≤ left → left ≤ L → rec b left = some (lf left (bsz b))) {N i : Nat} (hi : i ≤ k.length) (hN : k.length - i < N) :
  ∀ left : Int, 0 ≤ left → left ≤ L → laws_szBlockS_L1 k rec N left i = some (if left - ksz (k.drop i) < 0 then Sum.inl (-1) else Sum.inr (left - ksz (k.drop i))) := by
 refine loop_ind k.length (fun N i => ∀ left : Int, 0 ≤ left → left ≤ L → laws_szBlockS_L1 k rec N left i = some (if left - ksz (k.drop i) < 0 then Sum.inl (-1) else Sum.inr (left - ksz (k.drop i)))) ?_ ?_ hi hN
 ·intro n left h0 h1
  rw [laws_szBlockS_L1, if_neg (by simp [len_def])]
  simp [ksz]; omega
 ·intro n i hi ih left h0 h1
  obtain ⟨b, hb, hbm⟩ := at_lt hi
  rw [laws_szBlockS_L1, if_pos (by simp [len_def]; omega), get_lt hb]
  simp only [Option.bind_some]
  rw [hrec b hbm left h0 h1, ksz_drop hb]
  simp only [Option.bind_some]
  unfold lf
  by_cases h2 : left - bsz b < 0
  ·simp only [h2, if_true]
   rw [if_pos (by simp), if_pos (by omega)]
  ·simp only [h2, if_false]
   rw [if_neg (by simp), w_id (by omega) (by omega), show ((i : Int) + 1) = ((i + 1 : Nat) : Int) by omega, ih (left - bsz b) (by omega) (by omega)]
   have e : left - (bsz b : Int) - ksz (k.drop (i + 1)) = left - ((bsz b + ksz (k.drop (i + 1)) : Nat) : Int) := by omega
   rw [e]
theorem szBlockS_eq {N : Nat} (hN : 2000000 ≤ N) {rec : Block → Int → Option Int} {k : List Block} (hk : k.length ≤ 9223372036854775807) {left : Int} (h0 : 0 ≤ left) (h1 : left ≤ 1048576)
  (hrec : ∀ b ∈ k, ∀ l : Int, 0 ≤ l → l ≤ left - k.length → rec b l = some (lf l (bsz b))) : laws_szBlockS N rec k left = some (lf left (k.length + ksz k)) := by
 unfold laws_szBlockS
 rw [len_def, w_id (by omega) (by omega)]
 unfold lf
 by_cases h2 : left - (k.length : Int) < 0
 ·rw [if_pos (by simpa using h2), if_pos (by omega)]
 ·rw [if_neg (by simpa using h2)]
  have := szBlockS_L1_eq (by omega) hrec (Nat.zero_le _) (by omega : k.length - 0 < N) (left - k.length) (by omega) (Int.le_refl _)
  rw [show ((0 : Nat) : Int) = 0 from rfl, List.drop_zero] at this
  rw [this]
  by_cases h3 : left - (k.length : Int) - ksz k < 0
  ·rw [if_pos h3, if_pos (by omega)]; rfl
  ·rw [if_neg h3, if_neg (by omega)]
   simp only [Sh.cont_inr]
   congr 1; omega
theorem szStep_eq {N : Nat} (hN : 2000000 ≤ N) {rec : Block → Int → Option Int} {s : Step} (hs : StepIn s) {left : Int} (h0 : 0 ≤ left) (h1 : left ≤ 1048576)
  (hrec : ∀ b ∈ s.kids, ∀ l : Int, 0 ≤ l → l < left → rec b l = some (lf l (bsz b))) : laws_szStep N rec s left = some (lf left (ssz s)) := by
 unfold laws_szStep
 rw [szIntS_eq h0 h1 hs.args.2, ssz_eq]
 simp only [Option.bind_some]
 by_cases h2 : left - (s.args.length : Int) < 0
 ·have : left - ((s.args.length + s.kids.length + ksz s.kids : Nat) : Int) < 0 := by omega
  simp only [lf, if_pos h2, if_pos this]; rfl
 ·rw [if_neg h2, if_neg (by simpa using h2), szBlockS_eq hN hs.klen (by omega) (by omega) (fun b hb l l0 l1 => hrec b hb l l0 (by
   have : 0 < s.kids.length := List.length_pos_of_mem hb
   omega))]
  simp only [Option.bind_some]
  have e : lf (left - (s.args.length : Int)) (s.kids.length + ksz s.kids) = lf left (s.args.length + s.kids.length + ksz s.kids) := by
   unfold lf
   have e : left - (s.args.length : Int) - ((s.kids.length + ksz s.kids : Nat) : Int) = left - ((s.args.length + s.kids.length + ksz s.kids : Nat) : Int) := by omega
   rw [e]
  rw [e]
  unfold lf
  split <;> simp <;> omega
theorem szStepS_L1_eq {M : Nat} (hM : 2000000 ≤ M) {rec : Block → Int → Option Int} {l : List Step} {L : Int} (hL : L ≤ 1048576) (hk : l.length ≤ 1048576) (hs : ∀ s ∈ l, StepIn s) (hrec : ∀ s ∈ l, ∀ b ∈ s.kids, ∀ left : Int, 0 ≤ left → left < L → rec b left = some (lf left (bsz b))) {N i : Nat} (hi : i ≤ l.length) (hN : l.length - i < N) :
  ∀ left : Int, 0 ≤ left → left ≤ L → laws_szStepS_L1 M l rec N left i = some (if left - lsz (l.drop i) < 0 then Sum.inl (-1) else Sum.inr (left - lsz (l.drop i))) := by
 refine loop_ind l.length (fun N i => ∀ left : Int, 0 ≤ left → left ≤ L → laws_szStepS_L1 M l rec N left i = some (if left - lsz (l.drop i) < 0 then Sum.inl (-1) else Sum.inr (left - lsz (l.drop i)))) ?_ ?_ hi hN
 ·intro n left h0 h1
  rw [laws_szStepS_L1, if_neg (by simp [len_def])]
  simp [lsz]; omega
 ·intro n i hi ih left h0 h1
  obtain ⟨b, hb, hbm⟩ := at_lt hi
  rw [laws_szStepS_L1, if_pos (by simp [len_def]; omega), get_lt hb]
  simp only [Option.bind_some]
  rw [szStep_eq hM (hs b hbm) h0 (by omega) (fun c hc l' l0 l1 => hrec b hbm c hc l' l0 (by omega)), lsz_drop hb]
  simp only [Option.bind_some]
  unfold lf
  by_cases h2 : left - ssz b < 0
  ·simp only [h2, if_true]
   rw [if_pos (by simp), if_pos (by omega)]
  ·simp only [h2, if_false]
   rw [if_neg (by simp), w_id (by omega) (by omega), show ((i : Int) + 1) = ((i + 1 : Nat) : Int) by omega, ih (left - ssz b) (by omega) (by omega)]
   have e : left - (ssz b : Int) - lsz (l.drop (i + 1)) = left - ((ssz b + lsz (l.drop (i + 1)) : Nat) : Int) := by omega
   rw [e]
theorem szBlock_F_eq {N : Nat} (hN : 2000000 ≤ N) : ∀ (n : Nat) (b : Block) (left : Int), BlockIn b → 0 ≤ left → left ≤ 1048576 → left < n → laws_szBlock_F N n b left = some (lf left (bsz b)) := by
 intro n
 induction n with
 | zero => intro b left _ h0 _ h2; omega
 | succ n ih =>
  intro b left hb h0 h1 h2
  rw [laws_szBlock_F]
  unfold laws_szBlock_B laws_szStepS
  have hl := hb.steps.2
  rw [len_def, w_id (by omega) (by omega), bsz_eq]
  by_cases h3 : left - (b.steps.length : Int) < 0
  ·have : left - ((b.steps.length + lsz b.steps : Nat) : Int) < 0 := by omega
   rw [if_pos (by simpa using h3)]
   simp only [lf, if_pos this]; rfl
  ·rw [if_neg (by simpa using h3)]
   have := szStepS_L1_eq hN (rec := laws_szBlock_F N n) (l := b.steps) (L := left - b.steps.length) (by omega) (by omega) hb.steps.1 (fun s hs c hc l l0 l1 => ih c l ((hb.steps.1 s hs).kids c hc) l0 (by omega) (by have := List.length_pos_of_mem hs; omega)) (Nat.zero_le _) (by omega : b.steps.length - 0 < N) (left - b.steps.length) (by omega) (Int.le_refl _)
   rw [show ((0 : Nat) : Int) = 0 from rfl, List.drop_zero] at this
   rw [this]
   unfold lf
   by_cases h5 : left - (b.steps.length : Int) - lsz b.steps < 0
   ·rw [if_pos h5, if_pos (by omega)]; rfl
   ·rw [if_neg h5, if_neg (by omega)]
    simp only [Sh.cont_inr, Option.bind_some]
    rw [if_neg (by simp; omega)]
    congr 1; omega
theorem szBlock_eq {b : Block} (hb : BlockIn b) {N : Nat} (hN : 2000000 ≤ N) : laws_szBlock N b 1048576 = some (lf 1048576 (bsz b)) := by
 unfold laws_szBlock
 exact szBlock_F_eq hN N b _ hb (by decide) (by decide) (by omega)
end RC



namespace RC
open Go
def Bs (b : Block) : Prop := bsz b ≤ 1048576
theorem Bs.len {b : Block} (h : Bs b) : b.steps.length ≤ 1048576 := by unfold Bs at h; rw [bsz_eq] at h; omega
theorem step_le {b : Block} {s : Step} (hs : s ∈ b.steps) : ssz s + 1 ≤ bsz b := by
 have h1 := lsz_mem hs
 have h2 := List.length_pos_of_mem hs
 rw [bsz_eq]; omega
theorem kid_le {s : Step} {b : Block} (hb : b ∈ s.kids) : bsz b + 1 ≤ ssz s := by
 have h1 := ksz_mem hb
 have h2 := List.length_pos_of_mem hb
 rw [ssz_eq]; omega
theorem toBlockS_L1_eq {rec : Block → Option Block} {k : List Block} (hk : k.length ≤ 1048576) (hrec : ∀ b ∈ k, rec b = some b) {N i : Nat} (hi : i ≤ k.length) (hN : k.length - i < N) : ∀ m : List Block, m.length = k.length → m.take i = k.take i → laws_toBlockS_L1 k rec N i m = some k := by
 refine loop_ind k.length (fun N i => ∀ m : List Block, m.length = k.length → m.take i = k.take i → laws_toBlockS_L1 k rec N i m = some k) ?_ ?_ hi hN
 ·intro n m hm ht
  rw [laws_toBlockS_L1, if_neg (by simp [len_def])]
  rw [List.take_of_length_le (by omega), List.take_length] at ht
  rw [ht]
 ·intro n i hi ih m hm ht
  obtain ⟨x, hx, hxm⟩ := at_lt hi
  obtain ⟨y, hy, _⟩ := at_lt (l := m) (i := i) (by omega)
  rw [laws_toBlockS_L1, if_pos (by simp [len_def]; omega), get_lt hx]
  simp only [Option.bind_some]
  rw [hrec x hxm]
  simp only [Option.bind_some]
  rw [get_lt hy]
  simp only [Option.bind_some]
  rw [w_id (by omega) (by omega), put_nat, show ((i : Int) + 1) = ((i + 1 : Nat) : Int) by omega]
  refine ih _ (by simp [hm]) ?_
  rw [take_snoc hx, take_snoc (x := x) (by rw [List.getElem?_set]; simp; omega), List.take_set_of_le (Nat.le_refl _), ht]
theorem toStep_eq {N : Nat} (hN : 2000000 ≤ N) {rec : Block → Option Block} {s : Step} (hs : ssz s ≤ 1048576) (hrec : ∀ b ∈ s.kids, rec b = some b) : laws_toStep N rec s = some s := by
 rw [ssz_eq] at hs
 unfold laws_toStep laws_toBlockS
 rw [toIntS_eq (by omega) hN, len_def, mk_ok _ s.kids.length 32 (by omega) (by omega)]
 simp only [Option.bind_some]
 have := toBlockS_L1_eq (by omega) hrec (Nat.zero_le _) (by omega : s.kids.length - 0 < N) (List.replicate s.kids.length (Block.mk [] 0)) (by simp) (by simp)
 rw [show ((0 : Nat) : Int) = 0 from rfl] at this
 rw [this]
 exact congrArg some (Step.eta s).symm
theorem toStepS_L1_eq {M : Nat} (hM : 2000000 ≤ M) {rec : Block → Option Block} {k : List Step} (hk : k.length ≤ 1048576) (hs : ∀ s ∈ k, ssz s ≤ 1048576) (hrec : ∀ s ∈ k, ∀ b ∈ s.kids, rec b = some b) {N i : Nat} (hi : i ≤ k.length) (hN : k.length - i < N) : ∀ m : List Step, m.length = k.length → m.take i = k.take i → laws_toStepS_L1 M k rec N i m = some k := by
 refine loop_ind k.length (fun N i => ∀ m : List Step, m.length = k.length → m.take i = k.take i → laws_toStepS_L1 M k rec N i m = some k) ?_ ?_ hi hN
 ·intro n m hm ht
  rw [laws_toStepS_L1, if_neg (by simp [len_def])]
  rw [List.take_of_length_le (by omega), List.take_length] at ht
  rw [ht]
 ·intro n i hi ih m hm ht
  obtain ⟨x, hx, hxm⟩ := at_lt hi
  obtain ⟨y, hy, _⟩ := at_lt (l := m) (i := i) (by omega)
  rw [laws_toStepS_L1, if_pos (by simp [len_def]; omega), get_lt hx]
  simp only [Option.bind_some]
  rw [toStep_eq hM (hs x hxm) (hrec x hxm)]
  simp only [Option.bind_some]
  rw [get_lt hy]
  simp only [Option.bind_some]
  rw [w_id (by omega) (by omega), put_nat, show ((i : Int) + 1) = ((i + 1 : Nat) : Int) by omega]
  refine ih _ (by simp [hm]) ?_
  rw [take_snoc hx, take_snoc (x := x) (by rw [List.getElem?_set]; simp; omega), List.take_set_of_le (Nat.le_refl _), ht]
theorem toBlock_F_eq {N : Nat} (hN : 2000000 ≤ N) : ∀ (n : Nat) (b : Block), Bs b → bsz b < n → laws_toBlock_F N n b = some b := by
 intro n
 induction n with
 | zero => intro b _ h; omega
 | succ n ih =>
  intro b hb hn
  have hl := hb.len
  rw [laws_toBlock_F]
  unfold laws_toBlock_B laws_toStepS
  rw [len_def, mk_ok _ b.steps.length 72 (by omega) (by omega)]
  simp only [Option.bind_some]
  have := toStepS_L1_eq hN (rec := laws_toBlock_F N n) hl (fun s hs => by have := step_le hs; unfold Bs at hb; omega) (fun s hs c hc => ih c (by have := step_le hs; have := kid_le hc; unfold Bs at *; omega) (by have := step_le hs; have := kid_le hc; omega)) (Nat.zero_le _) (by omega : b.steps.length - 0 < N) (List.replicate b.steps.length (Step.mk 0 0 0 [] [])) (by simp) (by simp)
  rw [show ((0 : Nat) : Int) = 0 from rfl] at this
  rw [this]; rfl
theorem toBlock_eq {b : Block} (hb : Bs b) {N : Nat} (hN : 2000000 ≤ N) : laws_toBlock N b = some b := by
 unfold laws_toBlock
 exact toBlock_F_eq hN N b hb (by unfold Bs at hb; omega)
theorem eqBlockS_L1_eq {rec : Block → Block → Option Bool} {k : List Block} (hk : k.length ≤ 1048576) (hrec : ∀ b ∈ k, rec b b = some true) {N i : Nat} (hi : i ≤ k.length) (hN : k.length - i < N) : laws_eqBlockS_L1 k k rec N i = some (Sum.inr ()) := by
 refine loop_ind k.length (fun N i => laws_eqBlockS_L1 k k rec N i = some (Sum.inr ())) ?_ ?_ hi hN
 ·intro n
  rw [laws_eqBlockS_L1, if_neg (by simp [len_def])]
 ·intro n i hi ih
  obtain ⟨x, hx, hxm⟩ := at_lt hi
  rw [laws_eqBlockS_L1, if_pos (by simp [len_def]; omega), get_lt hx]
  simp only [Option.bind_some]
  rw [hrec x hxm, w_id (by omega) (by omega), show ((i : Int) + 1) = ((i + 1 : Nat) : Int) by omega]
  simpa using ih
theorem eqStep_eq {N : Nat} (hN : 2000000 ≤ N) {rec : Block → Block → Option Bool} {s : Step} (hs : ssz s ≤ 1048576) (hrec : ∀ b ∈ s.kids, rec b b = some true) : laws_eqStep N rec s s = some true := by
 rw [ssz_eq] at hs
 unfold laws_eqStep laws_eqBlockS
 have := eqBlockS_L1_eq (k := s.kids) (by omega) hrec (Nat.zero_le _) (by omega : s.kids.length - 0 < N)
 rw [show ((0 : Nat) : Int) = 0 from rfl] at this
 simp [eqIntS_eq (l := s.args) (by omega) hN, this]
theorem eqStepS_L1_eq {M : Nat} (hM : 2000000 ≤ M) {rec : Block → Block → Option Bool} {k : List Step} (hk : k.length ≤ 1048576) (hs : ∀ s ∈ k, ssz s ≤ 1048576) (hrec : ∀ s ∈ k, ∀ b ∈ s.kids, rec b b = some true) {N i : Nat} (hi : i ≤ k.length) (hN : k.length - i < N) : laws_eqStepS_L1 M k k rec N i = some (Sum.inr ()) := by
 refine loop_ind k.length (fun N i => laws_eqStepS_L1 M k k rec N i = some (Sum.inr ())) ?_ ?_ hi hN
 ·intro n
  rw [laws_eqStepS_L1, if_neg (by simp [len_def])]
 ·intro n i hi ih
  obtain ⟨x, hx, hxm⟩ := at_lt hi
  rw [laws_eqStepS_L1, if_pos (by simp [len_def]; omega), get_lt hx]
  simp only [Option.bind_some]
  rw [eqStep_eq hM (hs x hxm) (hrec x hxm), w_id (by omega) (by omega), show ((i : Int) + 1) = ((i + 1 : Nat) : Int) by omega]
  simpa using ih
theorem eqBlock_F_eq {N : Nat} (hN : 2000000 ≤ N) : ∀ (n : Nat) (b : Block), Bs b → bsz b < n → laws_eqBlock_F N n b b = some true := by
 intro n
 induction n with
 | zero => intro b _ h; omega
 | succ n ih =>
  intro b hb hn
  have hl := hb.len
  rw [laws_eqBlock_F]
  unfold laws_eqBlock_B laws_eqStepS
  have := eqStepS_L1_eq hN (rec := laws_eqBlock_F N n) hl (fun s hs => by have := step_le hs; unfold Bs at hb; omega) (fun s hs c hc => ih c (by have := step_le hs; have := kid_le hc; unfold Bs at *; omega) (by have := step_le hs; have := kid_le hc; omega)) (Nat.zero_le _) (by omega : b.steps.length - 0 < N)
  rw [show ((0 : Nat) : Int) = 0 from rfl] at this
  simp [this]
theorem eqBlock_eq {b : Block} (hb : Bs b) {N : Nat} (hN : 2000000 ≤ N) : laws_eqBlock N b b = some true := by
 unfold laws_eqBlock
 exact eqBlock_F_eq hN N b hb (by unfold Bs at hb; omega)
mutual
def nss : Step → Nat | .mk _ _ _ _ k => nks k + 1
def nks : List (BlockOf Step) → Nat | [] => 0 | b :: k => nst b + nks k
def nst : BlockOf Step → Nat | ⟨ss, _⟩ => nls ss
def nls : List Step → Nat | [] => 0 | s :: l => nss s + nls l
end
theorem nss_eq (s : Step) : nss s = nks s.kids + 1 := by cases s; simp [nss, Step.kids]
theorem nst_eq (b : Block) : nst b = nls b.steps := by cases b; simp [nst]
theorem nks_drop {k : List Block} {i : Nat} {b : Block} (h : k[i]? = some b) : nks (k.drop i) = nst b + nks (k.drop (i + 1)) := by rw [drop_cons h]; simp [nks]
theorem nls_drop {l : List Step} {i : Nat} {s : Step} (h : l[i]? = some s) : nls (l.drop i) = nss s + nls (l.drop (i + 1)) := by rw [drop_cons h]; simp [nls]
theorem left_L2_eq {b : Block} {s : Step} {i : Nat} {rec : Block → Int → Option Int} (hs : b.steps[i]? = some s) (hk : s.kids.length ≤ 1048576) (hrec : ∀ c ∈ s.kids, ∀ l : Int, 0 ≤ l → l ≤ 600 → rec c l = some (lf l (nst c))) {N k : Nat} (hi : k ≤ s.kids.length) (hN : s.kids.length - k < N) : ∀ left : Int, 0 ≤ left → left ≤ 600 →
  spec_stepsLeft_B_L2 i b rec N left k = some (if left - nks (s.kids.drop k) < 0 then Sum.inl (-1) else Sum.inr (left - nks (s.kids.drop k))) := by
 refine loop_ind s.kids.length (fun N k => ∀ left : Int, 0 ≤ left → left ≤ 600 → spec_stepsLeft_B_L2 i b rec N left k = some (if left - nks (s.kids.drop k) < 0 then Sum.inl (-1) else Sum.inr (left - nks (s.kids.drop k)))) ?_ ?_ hi hN
 ·intro n left h0 h1
  rw [spec_stepsLeft_B_L2, get_lt hs]
  simp only [Option.bind_some]
  rw [if_neg (by simp [len_def])]
  simp [nks]; omega
 ·intro n k hi ih left h0 h1
  obtain ⟨c, hc, hcm⟩ := at_lt hi
  rw [spec_stepsLeft_B_L2, get_lt hs]
  simp only [Option.bind_some]
  rw [if_pos (by simp [len_def]; omega), get_lt hc]
  simp only [Option.bind_some]
  rw [hrec c hcm left h0 h1, nks_drop hc]
  simp only [Option.bind_some]
  unfold lf
  by_cases h2 : left - nst c < 0
  ·simp only [h2, if_true]
   rw [if_pos (by simp), if_pos (by omega)]
  ·simp only [h2, if_false]
   rw [if_neg (by simp), w_id (by omega) (by omega), show ((k : Int) + 1) = ((k + 1 : Nat) : Int) by omega, ih (left - nst c) (by omega) (by omega)]
   have e : left - (nst c : Int) - nks (s.kids.drop (k + 1)) = left - ((nst c + nks (s.kids.drop (k + 1)) : Nat) : Int) := by omega
   rw [e]
theorem left_L1_eq {b : Block} {rec : Block → Int → Option Int} {M : Nat} (hM : 2000000 ≤ M) (hl : b.steps.length ≤ 1048576) (hk : ∀ s ∈ b.steps, s.kids.length ≤ 1048576) (hrec : ∀ s ∈ b.steps, ∀ c ∈ s.kids, ∀ l : Int, 0 ≤ l → l ≤ 600 → rec c l = some (lf l (nst c))) {N i : Nat} (hi : i ≤ b.steps.length) (hN : b.steps.length - i < N) : ∀ left : Int, 0 ≤ left → left ≤ 600 →
  spec_stepsLeft_B_L1 M b rec N left i = some (if left - nls (b.steps.drop i) < 0 then Sum.inl (-1) else Sum.inr (left - nls (b.steps.drop i))) := by
 refine loop_ind b.steps.length (fun N i => ∀ left : Int, 0 ≤ left → left ≤ 600 → spec_stepsLeft_B_L1 M b rec N left i = some (if left - nls (b.steps.drop i) < 0 then Sum.inl (-1) else Sum.inr (left - nls (b.steps.drop i)))) ?_ ?_ hi hN
 ·intro n left h0 h1
  rw [spec_stepsLeft_B_L1, if_neg (by simp [len_def])]
  simp [nls]; omega
 ·intro n i hi ih left h0 h1
  obtain ⟨s, hs, hsm⟩ := at_lt hi
  rw [spec_stepsLeft_B_L1, if_pos (by simp [len_def]; omega), nls_drop hs, nss_eq]
  by_cases h2 : left < 1
  ·rw [if_pos (by simpa using h2), if_pos (by omega)]
  ·rw [if_neg (by simpa using h2), w_id (n := left - 1) (by omega) (by omega)]
   have hks := hk s hsm
   have L2 := left_L2_eq hs hks (hrec s hsm) (Nat.zero_le _) (by omega : s.kids.length - 0 < M) (left - 1) (by omega) (by omega)
   rw [show ((0 : Nat) : Int) = 0 from rfl, List.drop_zero] at L2
   rw [L2]
   by_cases h3 : left - 1 - (nks s.kids : Int) < 0
   ·rw [if_pos h3, if_pos (by omega)]; rfl
   ·rw [if_neg h3]
    simp only [Sh.cont_inr]
    rw [w_id (by omega) (by omega), show ((i : Int) + 1) = ((i + 1 : Nat) : Int) by omega, ih _ (by omega) (by omega)]
    have e : left - 1 - (nks s.kids : Int) - nls (b.steps.drop (i + 1)) = left - ((nks s.kids + 1 + nls (b.steps.drop (i + 1)) : Nat) : Int) := by omega
    rw [e]
theorem kids_len {b : Block} (hb : Bs b) {s : Step} (hs : s ∈ b.steps) : s.kids.length ≤ 1048576 := by
 have h1 := step_le hs
 rw [ssz_eq] at h1
 unfold Bs at hb; omega
theorem args_len {b : Block} (hb : Bs b) {s : Step} (hs : s ∈ b.steps) : s.args.length ≤ 1048576 := by
 have h1 := step_le hs
 rw [ssz_eq] at h1
 unfold Bs at hb; omega
theorem kid_bs {b : Block} (hb : Bs b) {s : Step} (hs : s ∈ b.steps) {c : Block} (hc : c ∈ s.kids) : Bs c ∧ bsz c + 2 ≤ bsz b := by
 have h1 := step_le hs
 have h2 := kid_le hc
 unfold Bs at *
 exact ⟨by omega, by omega⟩
theorem stepsLeft_F_eq {N : Nat} (hN : 2000000 ≤ N) : ∀ (n : Nat) (b : Block) (left : Int), Bs b → bsz b < n → 0 ≤ left → left ≤ 600 → spec_stepsLeft_F N n b left = some (lf left (nst b)) := by
 intro n
 induction n with
 | zero => intro b left _ h; omega
 | succ n ih =>
  intro b left hb hn h0 h1
  have hl := hb.len
  rw [spec_stepsLeft_F]
  unfold spec_stepsLeft_B
  have := left_L1_eq (rec := spec_stepsLeft_F N n) hN hl (fun s hs => kids_len hb hs) (fun s hs c hc l l0 l1 => ih c l (kid_bs hb hs hc).1 (by have := (kid_bs hb hs hc).2; omega) l0 l1) (Nat.zero_le _) (by omega : b.steps.length - 0 < N) left h0 h1
  rw [show ((0 : Nat) : Int) = 0 from rfl, List.drop_zero, ← nst_eq] at this
  rw [this]
  unfold lf
  by_cases h3 : left - (nst b : Int) < 0
  ·rw [if_pos h3, if_pos h3]; rfl
  ·rw [if_neg h3, if_neg h3]; rfl
theorem spec_stepsOf_eq {b : Block} (hb : Bs b) {N : Nat} (hN : 2000000 ≤ N) : spec_stepsOf N b = some (if nst b ≤ 600 then (nst b : Int) else -1) := by
 unfold spec_stepsOf spec_stepsLeft
 rw [stepsLeft_F_eq hN N b 600 hb (by unfold Bs at hb; omega) (by decide) (by decide)]
 simp only [Option.bind_some]
 by_cases h : nst b ≤ 600
 ·have e : lf 600 (nst b) = 600 - (nst b : Int) := by unfold lf; rw [if_neg (by omega)]
  rw [e, if_neg (by simp; omega), if_pos h, w_id (by omega) (by omega)]
  congr 1; omega
 ·have e : lf 600 (nst b) = -1 := by unfold lf; rw [if_pos (by omega)]
  rw [e, if_neg h]; rfl
def Cs (n : Int) (m : Nat) (r : Bool × Int) : Prop := (n + m ≤ 600 → r = (true, n + m)) ∧ (¬ n + m ≤ 600 → r.1 = false)
theorem count_L2_eq {s : Step} {rec : Int → Block → Option (Bool × Int)} (hk : s.kids.length ≤ 1048576) (hrec : ∀ c ∈ s.kids, ∀ n : Int, 0 ≤ n → n ≤ 600 → ∃ r, rec n c = some r ∧ Cs n (nst c) r) {N k : Nat} (hi : k ≤ s.kids.length) (hN : s.kids.length - k < N) : ∀ n : Int, 0 ≤ n → n ≤ 600 →
  ∃ r, impl_countSteps_B_L2 s rec N k n = some r ∧ (n + nks (s.kids.drop k) ≤ 600 → r = Sum.inr (n + nks (s.kids.drop k))) ∧ (¬ n + nks (s.kids.drop k) ≤ 600 → ∃ m, r = Sum.inl (false, m)) := by
 refine loop_ind s.kids.length (fun N k => ∀ n : Int, 0 ≤ n → n ≤ 600 → ∃ r, impl_countSteps_B_L2 s rec N k n = some r ∧ (n + nks (s.kids.drop k) ≤ 600 → r = Sum.inr (n + nks (s.kids.drop k))) ∧ (¬ n + nks (s.kids.drop k) ≤ 600 → ∃ m, r = Sum.inl (false, m))) ?_ ?_ hi hN
 ·intro f n h0 h1
  rw [impl_countSteps_B_L2, if_neg (by simp [len_def])]
  refine ⟨_, rfl, fun _ => by simp [nks], fun h => ?_⟩
  simp [nks] at h; omega
 ·intro f k hi ih n h0 h1
  obtain ⟨c, hc, hcm⟩ := at_lt hi
  obtain ⟨⟨ok, m⟩, r1, r2, r3⟩ := hrec c hcm n h0 h1
  rw [impl_countSteps_B_L2, if_pos (by simp [len_def]; omega), get_lt hc]
  simp only [Option.bind_some]
  rw [r1, nks_drop hc]
  simp only [Option.bind_some]
  by_cases h2 : n + (nst c : Int) ≤ 600
  ·cases r2 h2
   rw [if_neg (by simp), w_id (by omega) (by omega), show ((k : Int) + 1) = ((k + 1 : Nat) : Int) by omega]
   obtain ⟨r, e1, e2, e3⟩ := ih (n + nst c) (by omega) h2
   have e : n + (nst c : Int) + nks (s.kids.drop (k + 1)) = n + ((nst c + nks (s.kids.drop (k + 1)) : Nat) : Int) := by omega
   rw [e] at e2 e3
   exact ⟨r, e1, e2, e3⟩
  ·have : ok = false := r3 h2
   subst this
   rw [if_pos (by simp)]
   exact ⟨_, rfl, fun h => by omega, fun _ => ⟨_, rfl⟩⟩
theorem count_L1_eq {b : Block} {rec : Int → Block → Option (Bool × Int)} {M : Nat} (hM : 2000000 ≤ M) (hl : b.steps.length ≤ 1048576) (hk : ∀ s ∈ b.steps, s.kids.length ≤ 1048576) (hrec : ∀ s ∈ b.steps, ∀ c ∈ s.kids, ∀ n : Int, 0 ≤ n → n ≤ 600 → ∃ r, rec n c = some r ∧ Cs n (nst c) r) {N i : Nat} (hi : i ≤ b.steps.length) (hN : b.steps.length - i < N) : ∀ n : Int, 0 ≤ n → n ≤ 600 →
  ∃ r, impl_countSteps_B_L1 M b rec N i n = some r ∧ (n + nls (b.steps.drop i) ≤ 600 → r = Sum.inr (n + nls (b.steps.drop i))) ∧ (¬ n + nls (b.steps.drop i) ≤ 600 → ∃ m, r = Sum.inl (false, m)) := by
 refine loop_ind b.steps.length (fun N i => ∀ n : Int, 0 ≤ n → n ≤ 600 → ∃ r, impl_countSteps_B_L1 M b rec N i n = some r ∧ (n + nls (b.steps.drop i) ≤ 600 → r = Sum.inr (n + nls (b.steps.drop i))) ∧ (¬ n + nls (b.steps.drop i) ≤ 600 → ∃ m, r = Sum.inl (false, m))) ?_ ?_ hi hN
 ·intro f n h0 h1
  rw [impl_countSteps_B_L1, if_neg (by simp [len_def])]
  refine ⟨_, rfl, fun _ => by simp [nls], fun h => ?_⟩
  simp [nls] at h; omega
 ·intro f i hi ih n h0 h1
  obtain ⟨s, hs, hsm⟩ := at_lt hi
  rw [impl_countSteps_B_L1, if_pos (by simp [len_def]; omega), get_lt hs, nls_drop hs, nss_eq]
  simp only [Option.bind_some]
  rw [w_id (n := n + 1) (by omega) (by omega)]
  by_cases h2 : 600 < n + 1
  ·rw [if_pos (by simpa using h2)]
   exact ⟨_, rfl, fun h => by omega, fun _ => ⟨_, rfl⟩⟩
  ·rw [if_neg (by simpa using h2)]
   have hks := hk s hsm
   obtain ⟨r, e1, e2, e3⟩ := count_L2_eq hks (hrec s hsm) (Nat.zero_le _) (by omega : s.kids.length - 0 < M) (n + 1) (by omega) (by omega)
   rw [show ((0 : Nat) : Int) = 0 from rfl] at e1
   rw [List.drop_zero] at e2 e3
   rw [e1]
   by_cases h3 : n + 1 + (nks s.kids : Int) ≤ 600
   ·rw [e2 h3]
    simp only [Sh.cont_inr]
    rw [w_id (by omega) (by omega), show ((i : Int) + 1) = ((i + 1 : Nat) : Int) by omega]
    obtain ⟨r', f1, f2, f3⟩ := ih _ (by omega) h3
    have e : n + 1 + (nks s.kids : Int) + nls (b.steps.drop (i + 1)) = n + ((nks s.kids + 1 + nls (b.steps.drop (i + 1)) : Nat) : Int) := by omega
    rw [e] at f2 f3
    exact ⟨r', f1, f2, f3⟩
   ·obtain ⟨m, hm⟩ := e3 h3
    rw [hm]
    exact ⟨_, rfl, fun h => by omega, fun _ => ⟨_, rfl⟩⟩
theorem countSteps_F_eq {N : Nat} (hN : 2000000 ≤ N) : ∀ (f : Nat) (b : Block) (n : Int), Bs b → bsz b < f → 0 ≤ n → n ≤ 600 → ∃ r, impl_countSteps_F N f n b = some r ∧ Cs n (nst b) r := by
 intro f
 induction f with
 | zero => intro b n _ h; omega
 | succ f ih =>
  intro b n hb hn h0 h1
  have hl := hb.len
  rw [impl_countSteps_F]
  unfold impl_countSteps_B
  obtain ⟨r, e1, e2, e3⟩ := count_L1_eq (rec := impl_countSteps_F N f) hN hl (fun s hs => kids_len hb hs) (fun s hs c hc l l0 l1 => ih c l (kid_bs hb hs hc).1 (by have := (kid_bs hb hs hc).2; omega) l0 l1) (Nat.zero_le _) (by omega : b.steps.length - 0 < N) n h0 h1
  rw [show ((0 : Nat) : Int) = 0 from rfl] at e1
  rw [List.drop_zero, ← nst_eq] at e2 e3
  rw [e1]
  by_cases h3 : n + (nst b : Int) ≤ 600
  ·rw [e2 h3]
   exact ⟨_, rfl, fun _ => rfl, fun h => absurd h3 h⟩
  ·obtain ⟨m, hm⟩ := e3 h3
   rw [hm]
   exact ⟨_, rfl, fun h => absurd h h3, fun _ => rfl⟩
theorem impl_StepsOf_eq {b : Block} (hb : Bs b) {N : Nat} (hN : 2000000 ≤ N) : impl_StepsOf N b = some (if nst b ≤ 600 then (nst b : Int) else -1) := by
 unfold impl_StepsOf impl_countSteps
 obtain ⟨⟨ok, m⟩, e1, e2, e3⟩ := countSteps_F_eq hN N b 0 hb (by unfold Bs at hb; omega) (by decide) (by decide)
 rw [e1]
 simp only [Option.bind_some]
 by_cases h : nst b ≤ 600
 ·cases e2 (by omega)
  rw [if_neg (by simp), if_pos h]
  congr 1; omega
 ·have : ok = false := e3 (by omega)
  subst this
  rw [if_pos (by simp), if_neg h]
end RC



namespace RC
open Go
def ctg (o : Int) : Bool := decide (14 ≤ o) && decide (o ≤ 17)
mutual
def us (v : Int) : Step → Nat | .mk o _ _ a k => if ctg o then 0 else a.countP (fun x => decide (x = v)) + uk v k
def uk (v : Int) : List (BlockOf Step) → Nat | [] => 0 | b :: k => ub v b + uk v k
def ub (v : Int) : BlockOf Step → Nat | ⟨ss, r⟩ => (if r = v then 1 else 0) + ul v ss
def ul (v : Int) : List Step → Nat | [] => 0 | s :: l => us v s + ul v l
end
def ua (v : Int) (a : List Int) : Nat := a.countP fun x => decide (x = v)
theorem ua_le (v : Int) (a : List Int) : ua v a ≤ a.length := List.countP_le_length
theorem ctg_spec (o : Int) : spec_isCounting o = some (ctg o) := by unfold spec_isCounting; rw [inRange_eq]; rfl
theorem ctg_impl (o : Int) : impl_isCounting o = some (ctg o) := by
 unfold impl_isCounting ctg
 by_cases h : 14 ≤ o <;> simp [h]
end RC



namespace RC
open Go
section
variable {D : List RDecl} {G : List RSignature} {ks : List Int} {op num : Int} {N : Nat}
end
end RC



namespace RC
open Go
section
variable {n : RNormal} {R1 : RNormal → List Int → Block → Option Int} {R2 : RSignatures → List Int → Block → Option Int} {T : List Int → Block → Int} {s : Step} {v : List Int} {N : Nat}
end
end RC



namespace RC
open Go
section
variable {n : RNormal} {R1 : RNormal → List Int → Block → Option Int} {R2 : RSignatures → List Int → Block → Option Int} {T : List Int → Block → Int} {s : Step} {v : List Int} {N : Nat}
end
end RC



namespace RC
open Go
section
variable {n : RNormal} {R1 : RNormal → List Int → Block → Option Int} {R2 : RSignatures → List Int → Block → Option Int} {T : List Int → Block → Int} {s : Step} {v : List Int} {N : Nat} {b : Bool}
end
end RC



namespace RC
open Go
section
variable {n : RNormal} {R1 : RNormal → List Int → Block → Option Int} {R2 : RSignatures → List Int → Block → Option Int} {T : List Int → Block → Int} {s : Step} {v : List Int} {N : Nat} {b : Bool}
end
end RC



namespace RC
open Go
section
variable {n : RNormal} {R1 : RNormal → List Int → Block → Option Int} {R2 : RSignatures → List Int → Block → Option Int} {T : List Int → Block → Int} {s : Step} {v : List Int} {N : Nat} {b : Bool}
end
end RC



namespace RC
open Go
section
variable {n : RNormal} {R1 : RNormal → List Int → Block → Option Int} {R2 : RSignatures → List Int → Block → Option Int} {T : List Int → Block → Int} {b : Block} {v : List Int} {N : Nat}
end
end RC



namespace RC
open Go
end RC



namespace RC
open Go
end RC



namespace RC
open Go
def ramp : Nat → Nat → List Int
 | _, 0 => []
 | k, n + 1 => (k : Int) :: ramp (k + 1) n
theorem ramp_len : ∀ (n k : Nat), (ramp k n).length = n
 | 0, _ => rfl
 | n + 1, k => by simp [ramp, ramp_len n]
theorem get_mid {α : Type} (A B : List α) (x : α) : Sh.get (A ++ x :: B) (A.length : Int) = some x := get_lt (by simp)
theorem put_mid {α : Type} (A B : List α) (x y : α) : Sh.put (A ++ x :: B) (A.length : Int) y = A ++ y :: B := by rw [put_nat]; simp
theorem markIntS_L1_eq : ∀ (B A : List Int) (k n : Nat), B.length < n → A.length + B.length ≤ 2000000 → k + B.length ≤ 100000000 →
  laws_markIntS_L1 n (k : Int) (A.length : Int) (A ++ B) = some (((k + B.length : Nat) : Int), A ++ ramp k B.length)
 | [], A, k, n, hn, _, _ => by
  obtain ⟨n, rfl⟩ : ∃ m, n = m + 1 := ⟨n - 1, by simp at hn; omega⟩
  rw [laws_markIntS_L1, if_neg (by simp [len_def])]; simp [ramp]
 | b :: B, A, k, n, hn, h1, h2 => by
  simp only [List.length_cons] at hn h1 h2 ⊢
  obtain ⟨n, rfl⟩ : ∃ m, n = m + 1 := ⟨n - 1, by omega⟩
  have ih := markIntS_L1_eq B (A ++ [(k : Int)]) (k + 1) n (by omega) (by simp; omega) (by omega)
  rw [laws_markIntS_L1, if_pos (by simp [len_def]; omega), get_mid, put_mid, w_id (by omega) (by omega), w_id (by omega) (by omega)]
  simp only [Option.bind_some]
  rw [List.length_append, List.append_assoc, List.append_assoc] at ih
  simp only [List.length_cons, List.length_nil, List.cons_append, List.nil_append] at ih
  have e1 : ((A.length : Int) + 1) = ((A.length + (0 + 1) : Nat) : Int) := by omega
  have e2 : ((k : Int) + 1) = ((k + 1 : Nat) : Int) := by omega
  rw [e1, e2, ih]
  simp only [ramp, show k + 1 + B.length = k + (B.length + 1) by omega]
theorem markIntS_eq {l : List Int} (hl : l.length ≤ 1048576) {k : Nat} (hk : k ≤ 50000000) {N : Nat} (hN : 2000000 ≤ N) : laws_markIntS N l (k : Int) = some (((k + l.length : Nat) : Int), ramp k l.length) := by
 unfold laws_markIntS
 have := markIntS_L1_eq l [] k N (by omega) (by simp; omega) (by omega)
 rw [List.length_nil, List.nil_append, List.nil_append] at this
 rw [show (0 : Int) = ((0 : Nat) : Int) from rfl, this]; rfl
theorem heldIntS_L1_eq : ∀ (m : Nat) (A : List Int) (k n : Nat), m < n → A.length + m ≤ 2000000 → k + m ≤ 100000000 →
  laws_heldIntS_L1 (A ++ ramp k m) n (k : Int) (A.length : Int) = some (Sum.inr (((k + m : Nat) : Int)))
 | 0, A, k, n, hn, _, _ => by
  obtain ⟨n, rfl⟩ : ∃ m, n = m + 1 := ⟨n - 1, by omega⟩
  rw [laws_heldIntS_L1, if_neg (by simp [len_def, ramp])]; simp
 | m + 1, A, k, n, hn, h1, h2 => by
  obtain ⟨n, rfl⟩ : ∃ m, n = m + 1 := ⟨n - 1, by omega⟩
  have ih := heldIntS_L1_eq m (A ++ [(k : Int)]) (k + 1) n (by omega) (by simp; omega) (by omega)
  rw [laws_heldIntS_L1, if_pos (by simp [len_def, ramp_len]; omega)]
  simp only [ramp]
  rw [get_mid, w_id (by omega) (by omega), w_id (by omega) (by omega)]
  simp only [Option.bind_some, decide_true, Bool.not_true, Bool.false_eq_true, if_false]
  rw [List.length_append, List.append_assoc] at ih
  simp only [List.length_cons, List.length_nil, List.cons_append, List.nil_append] at ih
  have e1 : ((A.length : Int) + 1) = ((A.length + (0 + 1) : Nat) : Int) := by omega
  have e2 : ((k : Int) + 1) = ((k + 1 : Nat) : Int) := by omega
  rw [e1, e2, ih]
  simp only [show k + 1 + m = k + (m + 1) by omega]
theorem heldIntS_eq {m : Nat} (hl : m ≤ 1048576) {k : Nat} (hk : k ≤ 50000000) {N : Nat} (hN : 2000000 ≤ N) : laws_heldIntS N (ramp k m) (k : Int) = some (((k + m : Nat) : Int)) := by
 unfold laws_heldIntS
 have := heldIntS_L1_eq m [] k N (by omega) (by simp; omega) (by omega)
 rw [List.length_nil, List.nil_append] at this
 rw [show (0 : Int) = ((0 : Nat) : Int) from rfl, this]; rfl
theorem w_succ {n : Nat} (h : n ≤ 100000000) : Sh.w ((n : Int) + 1) = ((n + 1 : Nat) : Int) := by
 rw [w_id (by omega) (by omega)]; rfl
theorem mark_loop {α : Type} (L : Nat → Int → Int → List α → Option (Int × List α)) (wt : α → Nat) (ok : α → Prop)
  (h0 : ∀ n k l, L (n + 1) k ((l.length : Nat) : Int) l = some (k, l))
  (hs : ∀ n (k : Nat) (A : List α) (x : α) (C : List α), A.length + C.length ≤ 1048576 → ok x → k + wt x ≤ 20000000 → ∃ (k' : Nat) (y : α), k' ≤ k + wt x ∧ L (n + 1) k ((A.length : Nat) : Int) (A ++ x :: C) = L n k' ((A.length + 1 : Nat) : Int) (A ++ y :: C)) :
  ∀ (C A : List α) (k n : Nat), C.length < n → A.length + C.length ≤ 1048576 → (∀ x ∈ C, ok x) → k + (C.map wt).sum ≤ 20000000 → ∃ (k' : Nat) (l' : List α), k' ≤ k + (C.map wt).sum ∧ L n k ((A.length : Nat) : Int) (A ++ C) = some ((k' : Int), l')
 | [], A, k, n, hn, _, _, _ => by
  obtain ⟨n, rfl⟩ : ∃ m, n = m + 1 := ⟨n - 1, by simp at hn; omega⟩
  refine ⟨k, A, by simp, ?_⟩
  rw [List.append_nil, h0]
 | x :: C, A, k, n, hn, hl, hok, hk => by
  simp only [List.length_cons, List.map_cons, List.sum_cons] at hn hl hk ⊢
  obtain ⟨n, rfl⟩ : ∃ m, n = m + 1 := ⟨n - 1, by omega⟩
  obtain ⟨k1, y, h1, h2⟩ := hs n k A x C (by omega) (hok x (by simp)) (by omega)
  obtain ⟨k2, l', h3, h4⟩ := mark_loop L wt ok h0 hs C (A ++ [y]) k1 n (by omega) (by simp; omega) (fun z hz => hok z (by simp [hz])) (by omega)
  refine ⟨k2, l', by omega, ?_⟩
  rw [h2, ← h4]
  simp
theorem mark_of {α : Type} {L : Nat → Int → Int → List α → Option (Int × List α)} {wt : α → Nat} {ok : α → Prop}
  (h0 : ∀ n k l, L (n + 1) k ((l.length : Nat) : Int) l = some (k, l))
  (hs : ∀ n (k : Nat) (A : List α) (x : α) (C : List α), A.length + C.length ≤ 1048576 → ok x → k + wt x ≤ 20000000 → ∃ (k' : Nat) (y : α), k' ≤ k + wt x ∧ L (n + 1) k ((A.length : Nat) : Int) (A ++ x :: C) = L n k' ((A.length + 1 : Nat) : Int) (A ++ y :: C))
  {l : List α} {k N : Nat} (hN : 2000000 ≤ N) (hl : l.length ≤ 1048576) (hok : ∀ x ∈ l, ok x) (hk : k + (l.map wt).sum ≤ 20000000) : ∃ (k' : Nat) (l' : List α), k' ≤ k + (l.map wt).sum ∧ L N k 0 l = some ((k' : Int), l') :=
 mark_loop L wt ok h0 hs l [] k N (by omega) (by simp; omega) hok hk
theorem toBlockS_L1_eq2 {rec : Block → Option Block} {k : List Block} (hk : k.length ≤ 1048576) (hrec : ∀ b ∈ k, rec b = some b) {N i : Nat} (hi : i ≤ k.length) (hN : k.length - i < N) : ∀ m : List Block, m.length = k.length → m.take i = k.take i → laws_toBlockS_2_L1 k rec N i m = some k := by
 refine loop_ind k.length (fun N i => ∀ m : List Block, m.length = k.length → m.take i = k.take i → laws_toBlockS_2_L1 k rec N i m = some k) ?_ ?_ hi hN
 ·intro n m hm ht
  rw [laws_toBlockS_2_L1, if_neg (by simp [len_def])]
  rw [List.take_of_length_le (by omega), List.take_length] at ht
  rw [ht]
 ·intro n i hi ih m hm ht
  obtain ⟨x, hx, hxm⟩ := at_lt hi
  obtain ⟨y, hy, _⟩ := at_lt (l := m) (i := i) (by omega)
  rw [laws_toBlockS_2_L1, if_pos (by simp [len_def]; omega), get_lt hx]
  simp only [Option.bind_some]
  rw [hrec x hxm]
  simp only [Option.bind_some]
  rw [get_lt hy]
  simp only [Option.bind_some]
  rw [w_id (by omega) (by omega), put_nat, show ((i : Int) + 1) = ((i + 1 : Nat) : Int) by omega]
  refine ih _ (by simp [hm]) ?_
  rw [take_snoc hx, take_snoc (x := x) (by rw [List.getElem?_set]; simp; omega), List.take_set_of_le (Nat.le_refl _), ht]
theorem toStep_eq2 {N : Nat} (hN : 2000000 ≤ N) {rec : Block → Option Block} {s : Step} (hs : ssz s ≤ 1048576) (hrec : ∀ b ∈ s.kids, rec b = some b) : laws_toStep_2 N rec s = some s := by
 rw [ssz_eq] at hs
 unfold laws_toStep_2 laws_toBlockS_2
 rw [toIntS_eq (by omega) hN, len_def, mk_ok _ s.kids.length 32 (by omega) (by omega)]
 simp only [Option.bind_some]
 have := toBlockS_L1_eq2 (by omega) hrec (Nat.zero_le _) (by omega : s.kids.length - 0 < N) (List.replicate s.kids.length (Block.mk [] 0)) (by simp) (by simp)
 rw [show ((0 : Nat) : Int) = 0 from rfl] at this
 rw [this]
 exact congrArg some (Step.eta s).symm
theorem toStepS_L1_eq2 {M : Nat} (hM : 2000000 ≤ M) {rec : Block → Option Block} {k : List Step} (hk : k.length ≤ 1048576) (hs : ∀ s ∈ k, ssz s ≤ 1048576) (hrec : ∀ s ∈ k, ∀ b ∈ s.kids, rec b = some b) {N i : Nat} (hi : i ≤ k.length) (hN : k.length - i < N) : ∀ m : List Step, m.length = k.length → m.take i = k.take i → laws_toStepS_2_L1 M k rec N i m = some k := by
 refine loop_ind k.length (fun N i => ∀ m : List Step, m.length = k.length → m.take i = k.take i → laws_toStepS_2_L1 M k rec N i m = some k) ?_ ?_ hi hN
 ·intro n m hm ht
  rw [laws_toStepS_2_L1, if_neg (by simp [len_def])]
  rw [List.take_of_length_le (by omega), List.take_length] at ht
  rw [ht]
 ·intro n i hi ih m hm ht
  obtain ⟨x, hx, hxm⟩ := at_lt hi
  obtain ⟨y, hy, _⟩ := at_lt (l := m) (i := i) (by omega)
  rw [laws_toStepS_2_L1, if_pos (by simp [len_def]; omega), get_lt hx]
  simp only [Option.bind_some]
  rw [toStep_eq2 hM (hs x hxm) (hrec x hxm)]
  simp only [Option.bind_some]
  rw [get_lt hy]
  simp only [Option.bind_some]
  rw [w_id (by omega) (by omega), put_nat, show ((i : Int) + 1) = ((i + 1 : Nat) : Int) by omega]
  refine ih _ (by simp [hm]) ?_
  rw [take_snoc hx, take_snoc (x := x) (by rw [List.getElem?_set]; simp; omega), List.take_set_of_le (Nat.le_refl _), ht]
theorem toBlock_F_eq2 {N : Nat} (hN : 2000000 ≤ N) : ∀ (n : Nat) (b : Block), Bs b → bsz b < n → laws_toBlock_2_F N n b = some b := by
 intro n
 induction n with
 | zero => intro b _ h; omega
 | succ n ih =>
  intro b hb hn
  have hl := hb.len
  rw [laws_toBlock_2_F]
  unfold laws_toBlock_2_B laws_toStepS_2
  rw [len_def, mk_ok _ b.steps.length 72 (by omega) (by omega)]
  simp only [Option.bind_some]
  have := toStepS_L1_eq2 hN (rec := laws_toBlock_2_F N n) hl (fun s hs => by have := step_le hs; unfold Bs at hb; omega) (fun s hs c hc => ih c (by have := step_le hs; have := kid_le hc; unfold Bs at *; omega) (by have := step_le hs; have := kid_le hc; omega)) (Nat.zero_le _) (by omega : b.steps.length - 0 < N) (List.replicate b.steps.length (Step.mk 0 0 0 [] [])) (by simp) (by simp)
  rw [show ((0 : Nat) : Int) = 0 from rfl] at this
  rw [this]; rfl
theorem toBlock_eq2 {b : Block} (hb : Bs b) {N : Nat} (hN : 2000000 ≤ N) : laws_toBlock_2 N b = some b := by
 unfold laws_toBlock_2
 exact toBlock_F_eq2 hN N b hb (by unfold Bs at hb; omega)
mutual
def ms : Step → Nat | .mk _ _ _ a k => 3 + a.length + mks k
def mks : List (BlockOf Step) → Nat | [] => 0 | b :: k => mb b + mks k
def mb : BlockOf Step → Nat | ⟨ss, _⟩ => mls ss + 1
def mls : List Step → Nat | [] => 0 | s :: l => ms s + mls l
end
theorem ms_eq (s : Step) : ms s = 3 + s.args.length + mks s.kids := by cases s; simp only [ms]; rfl
theorem mb_eq (b : Block) : mb b = mls b.steps + 1 := by cases b; simp only [mb]
theorem mks_eq : ∀ k : List Block, mks k = (k.map mb).sum
 | [] => rfl
 | b :: k => by rw [List.map_cons, List.sum_cons, ← mks_eq k]; simp only [mks]
theorem mls_eq : ∀ l : List Step, mls l = (l.map ms).sum
 | [] => rfl
 | s :: l => by rw [List.map_cons, List.sum_cons, ← mls_eq l]; simp only [mls]
mutual
theorem ms_le : ∀ s : Step, ms s ≤ 3 + 3 * ssz s
 | .mk o _ _ a k => by
  have h1 := mks_le k
  simp only [ms, ssz]
  omega
theorem mks_le : ∀ k : List (BlockOf Step), mks k ≤ k.length + 3 * ksz k
 | [] => by simp [mks]
 | b :: k => by
  have h1 := mb_le b
  have h2 := mks_le k
  simp only [mks, ksz, List.length_cons]
  omega
theorem mb_le : ∀ b : BlockOf Step, mb b ≤ 1 + 3 * bsz b
 | ⟨ss, r⟩ => by
  have h1 := mls_le ss
  simp only [mb, bsz]
  omega
theorem mls_le : ∀ l : List Step, mls l ≤ 3 * l.length + 3 * lsz l
 | [] => by simp [mls]
 | s :: l => by
  have h1 := ms_le s
  have h2 := mls_le l
  simp only [mls, lsz, List.length_cons]
  omega
end
def MR (rec : List Step → Int → Option (Int × List Step)) (l : List Step) : Prop := ∀ k : Nat, k + mls l ≤ 20000000 → ∃ (k' : Nat) (l' : List Step), k' ≤ k + mls l ∧ rec l k = some ((k' : Int), l')
theorem markBlockS_eq {rec : List Step → Int → Option (Int × List Step)} {l : List Block} {k N : Nat} (hN : 2000000 ≤ N) (hl : l.length ≤ 1048576) (hok : ∀ b ∈ l, MR rec b.steps) (hk : k + mks l ≤ 20000000) : ∃ (k' : Nat) (l' : List Block), k' ≤ k + mks l ∧ laws_markBlockS N rec l k = some ((k' : Int), l') := by
 rw [mks_eq] at hk ⊢
 obtain ⟨k', l', h1, h2⟩ := mark_of (L := laws_markBlockS_L1 rec) (wt := mb) (ok := fun b => MR rec b.steps) (fun n k l => by rw [laws_markBlockS_L1, if_neg (by simp [len_def])]) (fun n k A x C hA hx hk => by
  rw [mb_eq] at hk ⊢
  obtain ⟨k1, l1, g1, g2⟩ := hx k (by omega)
  rw [laws_markBlockS_L1, if_pos (by simp [len_def]; omega), w_succ (n := A.length) (by omega)]
  simp only [get_mid, put_mid, Option.bind_some]
  rw [g2]
  simp only [get_mid, put_mid, Option.bind_some]
  rw [w_succ (n := k1) (by omega)]
  exact ⟨k1 + 1, _, by omega, rfl⟩) hN hl hok hk
 refine ⟨k', l', h1, ?_⟩
 unfold laws_markBlockS
 rw [h2]; rfl
theorem markStepS_F_eq {N : Nat} (hN : 2000000 ≤ N) : ∀ (m : Nat) (l : List Step), l.length + lsz l ≤ 1048576 → l.length + lsz l < m → MR (laws_markStepS_F N m) l := by
 intro m
 induction m with
 | zero => intro l _ h; omega
 | succ m ih =>
  intro l hl hm k hk
  rw [mls_eq] at hk ⊢
  rw [laws_markStepS_F]
  unfold laws_markStepS_B
  obtain ⟨k', l', h1, h2⟩ := mark_of (L := laws_markStepS_B_L1 N (laws_markStepS_F N m)) (wt := ms) (ok := fun s => ssz s ≤ 1048576 ∧ ∀ b ∈ s.kids, MR (laws_markStepS_F N m) b.steps) (fun n k l => by rw [laws_markStepS_B_L1, if_neg (by simp [len_def])]) (fun n k A x C hA hx hk => by
   have hz := ssz_eq x
   obtain ⟨hx1, hx2⟩ := hx
   rw [ms_eq] at hk ⊢
   obtain ⟨o, nu, it, ar, kd⟩ := x
   simp only [Step.args, Step.kids] at hz hx2 hk ⊢
   have e1 := markIntS_eq (l := ar) (by omega) (k := k + 1 + 1 + 1) (by omega) hN
   obtain ⟨k1, l1, g1, g2⟩ := markBlockS_eq (rec := laws_markStepS_F N m) (l := kd) (k := k + 1 + 1 + 1 + ar.length) hN (by omega) hx2 (by omega)
   rw [laws_markStepS_B_L1, if_pos (by simp [len_def]; omega), w_succ (n := k) (by omega), w_succ (n := k + 1) (by omega), w_succ (n := k + 1 + 1) (by omega), w_succ (n := A.length) (by omega)]
   simp only [get_mid, put_mid, Option.bind_some, Step.op, Step.num, Step.into, Step.args, Step.kids]
   rw [e1]
   simp only [get_mid, put_mid, Option.bind_some, Step.op, Step.num, Step.into, Step.args, Step.kids]
   rw [g2]
   simp only [Option.bind_some]
   exact ⟨k1, _, by omega, rfl⟩) hN (by omega) (fun s hs => by
    have h1 := lsz_mem hs
    have h2 := List.length_pos_of_mem hs
    refine ⟨by omega, fun b hb => ?_⟩
    have h3 := kid_le hb
    rw [bsz_eq] at h3
    exact ih b.steps (by omega) (by omega)) hk
  refine ⟨k', l', h1, ?_⟩
  rw [h2]; rfl
theorem markStepS_eq {N : Nat} (hN : 2000000 ≤ N) {b : Block} (hb : Bs b) : MR (laws_markStepS N) b.steps := by
 unfold Bs at hb
 rw [bsz_eq] at hb
 unfold laws_markStepS
 exact markStepS_F_eq hN N b.steps hb (by omega)
end RC


namespace RC
end RC


namespace RC
end RC


namespace RC
end RC



namespace RC
open Go
theorem w_nat {i : Nat} (h : i ≤ 1048576) : Sh.w ((i : Int) + 1) = ((i + 1 : Nat) : Int) := by rw [w_id (by omega) (by omega)]; rfl
end RC



namespace RC
open Go
end RC

