import Derived.Test.YtcegihniiokijaaGreatGPlainAToXNI
import Derived.Test.YtcegihniiokijaaGreatCODefs

namespace RC
open Go
def ramp : Nat → Nat → List Int
 | _, 0 => []
 | k, n + 1 => (k : Int) :: ramp (k + 1) n
theorem ramp_len : ∀ (n k : Nat), (ramp k n).length = n
 | 0, _ => rfl
 | n + 1, k => by simp [ramp, ramp_len n]
theorem get_mid {α : Type} (A B : List α) (x : α) : Sh.get (A ++ x :: B) (A.length : Int) = some x := get_lt (by simp)
theorem put_mid {α : Type} (A B : List α) (x y : α) : Sh.put (A ++ x :: B) (A.length : Int) y = A ++ y :: B := by rw [put_nat]; simp
theorem markIntS_L1_eq : ∀ (B A : List Int) (k n : Nat), B.length < n → A.length + B.length ≤ 2000000 → k + B.length ≤ 100000000 →
  laws_markIntS_L1 n (k : Int) (A.length : Int) (A ++ B) = some (((k + B.length : Nat) : Int), A ++ ramp k B.length)
 | [], A, k, n, hn, _, _ => by
  obtain ⟨n, rfl⟩ : ∃ m, n = m + 1 := ⟨n - 1, by simp at hn; omega⟩
  rw [laws_markIntS_L1, if_neg (by simp [len_def])]; simp [ramp]
 | b :: B, A, k, n, hn, h1, h2 => by
  simp only [List.length_cons] at hn h1 h2 ⊢
  obtain ⟨n, rfl⟩ : ∃ m, n = m + 1 := ⟨n - 1, by omega⟩
  have ih := markIntS_L1_eq B (A ++ [(k : Int)]) (k + 1) n (by omega) (by simp; omega) (by omega)
  rw [laws_markIntS_L1, if_pos (by simp [len_def]; omega), get_mid, put_mid, w_id (by omega) (by omega), w_id (by omega) (by omega)]
  simp only [Option.bind_some]
  rw [List.length_append, List.append_assoc, List.append_assoc] at ih
  simp only [List.length_cons, List.length_nil, List.cons_append, List.nil_append] at ih
  have e1 : ((A.length : Int) + 1) = ((A.length + (0 + 1) : Nat) : Int) := by omega
  have e2 : ((k : Int) + 1) = ((k + 1 : Nat) : Int) := by omega
  rw [e1, e2, ih]
  simp only [ramp, show k + 1 + B.length = k + (B.length + 1) by omega]
theorem markIntS_eq {l : List Int} (hl : l.length ≤ 1048576) {k : Nat} (hk : k ≤ 50000000) {N : Nat} (hN : 2000000 ≤ N) : laws_markIntS N l (k : Int) = some (((k + l.length : Nat) : Int), ramp k l.length) := by
 unfold laws_markIntS
 have := markIntS_L1_eq l [] k N (by omega) (by simp; omega) (by omega)
 rw [List.length_nil, List.nil_append, List.nil_append] at this
 rw [show (0 : Int) = ((0 : Nat) : Int) from rfl, this]; rfl
theorem heldIntS_L1_eq : ∀ (m : Nat) (A : List Int) (k n : Nat), m < n → A.length + m ≤ 2000000 → k + m ≤ 100000000 →
  laws_heldIntS_L1 (A ++ ramp k m) n (k : Int) (A.length : Int) = some (Sum.inr (((k + m : Nat) : Int)))
 | 0, A, k, n, hn, _, _ => by
  obtain ⟨n, rfl⟩ : ∃ m, n = m + 1 := ⟨n - 1, by omega⟩
  rw [laws_heldIntS_L1, if_neg (by simp [len_def, ramp])]; simp
 | m + 1, A, k, n, hn, h1, h2 => by
  obtain ⟨n, rfl⟩ : ∃ m, n = m + 1 := ⟨n - 1, by omega⟩
  have ih := heldIntS_L1_eq m (A ++ [(k : Int)]) (k + 1) n (by omega) (by simp; omega) (by omega)
  rw [laws_heldIntS_L1, if_pos (by simp [len_def, ramp_len]; omega)]
  simp only [ramp]
  rw [get_mid, w_id (by omega) (by omega), w_id (by omega) (by omega)]
  simp only [Option.bind_some, decide_true, Bool.not_true, Bool.false_eq_true, if_false]
  rw [List.length_append, List.append_assoc] at ih
  simp only [List.length_cons, List.length_nil, List.cons_append, List.nil_append] at ih
  have e1 : ((A.length : Int) + 1) = ((A.length + (0 + 1) : Nat) : Int) := by omega
  have e2 : ((k : Int) + 1) = ((k + 1 : Nat) : Int) := by omega
  rw [e1, e2, ih]
  simp only [show k + 1 + m = k + (m + 1) by omega]
theorem heldIntS_eq {m : Nat} (hl : m ≤ 1048576) {k : Nat} (hk : k ≤ 50000000) {N : Nat} (hN : 2000000 ≤ N) : laws_heldIntS N (ramp k m) (k : Int) = some (((k + m : Nat) : Int)) := by
 unfold laws_heldIntS
 have := heldIntS_L1_eq m [] k N (by omega) (by simp; omega) (by omega)
 rw [List.length_nil, List.nil_append] at this
 rw [show (0 : Int) = ((0 : Nat) : Int) from rfl, this]; rfl
theorem sum_le {α : Type} {f g : α → Nat} {a b : Nat} : ∀ {l : List α}, (∀ x ∈ l, f x ≤ a + b * g x) → (l.map f).sum ≤ a * l.length + b * (l.map g).sum
 | [], _ => by simp
 | x :: r, h => by
  have h1 := h x (by simp)
  have h2 := sum_le (l := r) fun y hy => h y (by simp [hy])
  simp only [List.map_cons, List.sum_cons, List.length_cons, Nat.mul_add]
  omega
theorem w_succ {n : Nat} (h : n ≤ 100000000) : Sh.w ((n : Int) + 1) = ((n + 1 : Nat) : Int) := by
 rw [w_id (by omega) (by omega)]; rfl
theorem mark_loop {α : Type} (L : Nat → Int → Int → List α → Option (Int × List α)) (wt : α → Nat) (ok : α → Prop)
  (h0 : ∀ n k l, L (n + 1) k ((l.length : Nat) : Int) l = some (k, l))
  (hs : ∀ n (k : Nat) (A : List α) (x : α) (C : List α), A.length + C.length ≤ 1048576 → ok x → k + wt x ≤ 20000000 → ∃ (k' : Nat) (y : α), k' ≤ k + wt x ∧ L (n + 1) k ((A.length : Nat) : Int) (A ++ x :: C) = L n k' ((A.length + 1 : Nat) : Int) (A ++ y :: C)) :
  ∀ (C A : List α) (k n : Nat), C.length < n → A.length + C.length ≤ 1048576 → (∀ x ∈ C, ok x) → k + (C.map wt).sum ≤ 20000000 → ∃ (k' : Nat) (l' : List α), k' ≤ k + (C.map wt).sum ∧ L n k ((A.length : Nat) : Int) (A ++ C) = some ((k' : Int), l')
 | [], A, k, n, hn, _, _, _ => by
  obtain ⟨n, rfl⟩ : ∃ m, n = m + 1 := ⟨n - 1, by simp at hn; omega⟩
  refine ⟨k, A, by simp, ?_⟩
  rw [List.append_nil, h0]
 | x :: C, A, k, n, hn, hl, hok, hk => by
  simp only [List.length_cons, List.map_cons, List.sum_cons] at hn hl hk ⊢
  obtain ⟨n, rfl⟩ : ∃ m, n = m + 1 := ⟨n - 1, by omega⟩
  obtain ⟨k1, y, h1, h2⟩ := hs n k A x C (by omega) (hok x (by simp)) (by omega)
  obtain ⟨k2, l', h3, h4⟩ := mark_loop L wt ok h0 hs C (A ++ [y]) k1 n (by omega) (by simp; omega) (fun z hz => hok z (by simp [hz])) (by omega)
  refine ⟨k2, l', by omega, ?_⟩
  rw [h2, ← h4]
  simp
theorem mark_of {α : Type} {L : Nat → Int → Int → List α → Option (Int × List α)} {wt : α → Nat} {ok : α → Prop}
  (h0 : ∀ n k l, L (n + 1) k ((l.length : Nat) : Int) l = some (k, l))
  (hs : ∀ n (k : Nat) (A : List α) (x : α) (C : List α), A.length + C.length ≤ 1048576 → ok x → k + wt x ≤ 20000000 → ∃ (k' : Nat) (y : α), k' ≤ k + wt x ∧ L (n + 1) k ((A.length : Nat) : Int) (A ++ x :: C) = L n k' ((A.length + 1 : Nat) : Int) (A ++ y :: C))
  {l : List α} {k N : Nat} (hN : 2000000 ≤ N) (hl : l.length ≤ 1048576) (hok : ∀ x ∈ l, ok x) (hk : k + (l.map wt).sum ≤ 20000000) : ∃ (k' : Nat) (l' : List α), k' ≤ k + (l.map wt).sum ∧ L N k 0 l = some ((k' : Int), l') :=
 mark_loop L wt ok h0 hs l [] k N (by omega) (by simp; omega) hok hk
theorem markConS_eq {l : List RCon} {k N : Nat} (hN : 2000000 ≤ N) (hl : l.length ≤ 1048576) (hok : ∀ c ∈ l, cz c ≤ 1048576) (hk : k + (l.map cz).sum ≤ 20000000) : ∃ (k' : Nat) (l' : List RCon), k' ≤ k + (l.map cz).sum ∧ laws_markConS N l k = some ((k' : Int), l') := by
 obtain ⟨k', l', h1, h2⟩ := mark_of (L := laws_markConS_L1 N) (wt := cz) (ok := fun c => cz c ≤ 1048576) (fun n k l => by rw [laws_markConS_L1, if_neg (by simp [len_def])]) (fun n k A x C hA hx hk => by
  rw [laws_markConS_L1, if_pos (by simp [len_def]; omega), get_mid]
  simp only [Option.bind_some]
  rw [markIntS_eq hx (by omega) hN]
  simp only [Option.bind_some, put_mid]
  rw [w_succ (by omega)]
  exact ⟨_, _, Nat.le_refl _, rfl⟩) hN hl hok hk
 refine ⟨k', l', h1, ?_⟩
 unfold laws_markConS
 rw [h2]; rfl
def dzM (d : RDecl) : Nat := 2 + (d.cons.map cz).sum
theorem markDeclS_eq {l : List RDecl} {k N : Nat} (hN : 2000000 ≤ N) (hl : l.length ≤ 1048576) (hok : ∀ d ∈ l, dz d ≤ 1048576) (hk : k + (l.map dzM).sum ≤ 20000000) : ∃ (k' : Nat) (l' : List RDecl), k' ≤ k + (l.map dzM).sum ∧ laws_markDeclS N l k = some ((k' : Int), l') := by
 obtain ⟨k', l', h1, h2⟩ := mark_of (L := laws_markDeclS_L1 N) (wt := dzM) (ok := fun d => dz d ≤ 1048576) (fun n k l => by rw [laws_markDeclS_L1, if_neg (by simp [len_def])]) (fun n k A x C hA hx hk => by
  unfold dz at hx
  unfold dzM at hk ⊢
  obtain ⟨k1, l1, g1, g2⟩ := markConS_eq (l := x.cons) (k := k + 1 + 1) hN (by omega) (fun c hc => by have := mem_sum cz hc; omega) (by omega)
  rw [laws_markDeclS_L1, if_pos (by simp [len_def]; omega), w_succ (n := k) (by omega), w_succ (n := k + 1) (by omega), w_succ (n := A.length) (by omega)]
  simp only [get_mid, put_mid, Option.bind_some]
  rw [g2]
  simp only [Option.bind_some]
  exact ⟨k1, _, by omega, rfl⟩) hN hl hok hk
 refine ⟨k', l', h1, ?_⟩
 unfold laws_markDeclS
 rw [h2]; rfl
theorem toBlockS_L1_eq2 {rec : Block → Option Block} {k : List Block} (hk : k.length ≤ 1048576) (hrec : ∀ b ∈ k, rec b = some b) {N i : Nat} (hi : i ≤ k.length) (hN : k.length - i < N) : ∀ m : List Block, m.length = k.length → m.take i = k.take i → laws_toBlockS_2_L1 k rec N i m = some k := by
 refine loop_ind k.length (fun N i => ∀ m : List Block, m.length = k.length → m.take i = k.take i → laws_toBlockS_2_L1 k rec N i m = some k) ?_ ?_ hi hN
 ·intro n m hm ht
  rw [laws_toBlockS_2_L1, if_neg (by simp [len_def])]
  rw [List.take_of_length_le (by omega), List.take_length] at ht
  rw [ht]
 ·intro n i hi ih m hm ht
  obtain ⟨x, hx, hxm⟩ := at_lt hi
  obtain ⟨y, hy, _⟩ := at_lt (l := m) (i := i) (by omega)
  rw [laws_toBlockS_2_L1, if_pos (by simp [len_def]; omega), get_lt hx]
  simp only [Option.bind_some]
  rw [hrec x hxm]
  simp only [Option.bind_some]
  rw [get_lt hy]
  simp only [Option.bind_some]
  rw [w_id (by omega) (by omega), put_nat, show ((i : Int) + 1) = ((i + 1 : Nat) : Int) by omega]
  refine ih _ (by simp [hm]) ?_
  rw [take_snoc hx, take_snoc (x := x) (by rw [List.getElem?_set]; simp; omega), List.take_set_of_le (Nat.le_refl _), ht]
theorem toStep_eq2 {N : Nat} (hN : 2000000 ≤ N) {rec : Block → Option Block} {s : Step} (hs : ssz s ≤ 1048576) (hrec : ∀ b ∈ s.kids, rec b = some b) : laws_toStep_2 N rec s = some s := by
 rw [ssz_eq] at hs
 unfold laws_toStep_2 laws_toBlockS_2
 rw [toIntS_eq (by omega) hN, len_def, mk_ok _ s.kids.length 32 (by omega) (by omega)]
 simp only [Option.bind_some]
 have := toBlockS_L1_eq2 (by omega) hrec (Nat.zero_le _) (by omega : s.kids.length - 0 < N) (List.replicate s.kids.length (Block.mk [] 0)) (by simp) (by simp)
 rw [show ((0 : Nat) : Int) = 0 from rfl] at this
 rw [this]
 exact congrArg some (Step.eta s).symm
theorem toStepS_L1_eq2 {M : Nat} (hM : 2000000 ≤ M) {rec : Block → Option Block} {k : List Step} (hk : k.length ≤ 1048576) (hs : ∀ s ∈ k, ssz s ≤ 1048576) (hrec : ∀ s ∈ k, ∀ b ∈ s.kids, rec b = some b) {N i : Nat} (hi : i ≤ k.length) (hN : k.length - i < N) : ∀ m : List Step, m.length = k.length → m.take i = k.take i → laws_toStepS_2_L1 M k rec N i m = some k := by
 refine loop_ind k.length (fun N i => ∀ m : List Step, m.length = k.length → m.take i = k.take i → laws_toStepS_2_L1 M k rec N i m = some k) ?_ ?_ hi hN
 ·intro n m hm ht
  rw [laws_toStepS_2_L1, if_neg (by simp [len_def])]
  rw [List.take_of_length_le (by omega), List.take_length] at ht
  rw [ht]
 ·intro n i hi ih m hm ht
  obtain ⟨x, hx, hxm⟩ := at_lt hi
  obtain ⟨y, hy, _⟩ := at_lt (l := m) (i := i) (by omega)
  rw [laws_toStepS_2_L1, if_pos (by simp [len_def]; omega), get_lt hx]
  simp only [Option.bind_some]
  rw [toStep_eq2 hM (hs x hxm) (hrec x hxm)]
  simp only [Option.bind_some]
  rw [get_lt hy]
  simp only [Option.bind_some]
  rw [w_id (by omega) (by omega), put_nat, show ((i : Int) + 1) = ((i + 1 : Nat) : Int) by omega]
  refine ih _ (by simp [hm]) ?_
  rw [take_snoc hx, take_snoc (x := x) (by rw [List.getElem?_set]; simp; omega), List.take_set_of_le (Nat.le_refl _), ht]
theorem toBlock_F_eq2 {N : Nat} (hN : 2000000 ≤ N) : ∀ (n : Nat) (b : Block), Bs b → bsz b < n → laws_toBlock_2_F N n b = some b := by
 intro n
 induction n with
 | zero => intro b _ h; omega
 | succ n ih =>
  intro b hb hn
  have hl := hb.len
  rw [laws_toBlock_2_F]
  unfold laws_toBlock_2_B laws_toStepS_2
  rw [len_def, mk_ok _ b.steps.length 72 (by omega) (by omega)]
  simp only [Option.bind_some]
  have := toStepS_L1_eq2 hN (rec := laws_toBlock_2_F N n) hl (fun s hs => by have := step_le hs; unfold Bs at hb; omega) (fun s hs c hc => ih c (by have := step_le hs; have := kid_le hc; unfold Bs at *; omega) (by have := step_le hs; have := kid_le hc; omega)) (Nat.zero_le _) (by omega : b.steps.length - 0 < N) (List.replicate b.steps.length (Step.mk 0 0 0 [] [])) (by simp) (by simp)
  rw [show ((0 : Nat) : Int) = 0 from rfl] at this
  rw [this]; rfl
theorem toBlock_eq2 {b : Block} (hb : Bs b) {N : Nat} (hN : 2000000 ≤ N) : laws_toBlock_2 N b = some b := by
 unfold laws_toBlock_2
 exact toBlock_F_eq2 hN N b hb (by unfold Bs at hb; omega)
theorem toRoutine_eq2 {r : RRoutine} (h : rtz r ≤ 1048576) {N : Nat} (hN : 2000000 ≤ N) : laws_toRoutine_2 N r = some r := by
 unfold rtz at h
 unfold laws_toRoutine_2; rw [toIntS_eq (by omega) hN, toIntS_eq (by omega) hN, toBlock_eq2 (by unfold Bs; omega) hN]; rfl
theorem toRoutineS_eq2 {l : List RRoutine} (hl : l.length + (l.map rtz).sum ≤ 1048576) {N : Nat} (hN : 2000000 ≤ N) : laws_toRoutineS_2 N l = some l := by
 unfold laws_toRoutineS_2
 rw [len_def, mk_ok _ _ _ (by omega) (by omega)]
 simp only [Option.bind_some]
 rw [to_list (l := l) (laws_toRoutineS_2_L1 N l) (fun n m => by rw [laws_toRoutineS_2_L1, if_neg (by simp [len_def])]) (fun n i x m hx hm => ?_) (by omega) (by simp)]
 ·rfl
 ·have hi := (List.getElem?_eq_some_iff.1 hx).1
  have hz := mem_sum rtz (List.mem_of_getElem? hx)
  obtain ⟨y, hy, _⟩ := at_lt (l := m) (i := i) (by omega)
  rw [laws_toRoutineS_2_L1, if_pos (by simp [len_def]; omega), get_lt hx]
  simp only [Option.bind_some]
  rw [toRoutine_eq2 (by omega) hN, get_lt hy]
  simp only [Option.bind_some]
  rw [put_nat, w_id (by omega) (by omega), show ((i : Int) + 1) = ((i + 1 : Nat) : Int) by omega]
theorem toNormal_eq2 {n : RNormal} (h : nmz n ≤ 1048576) {N : Nat} (hN : 2000000 ≤ N) : laws_toNormal_2 N n = some n := by
 unfold nmz at h
 unfold laws_toNormal_2; rw [toDeclS_eq (by omega) hN, toRoutineS_eq2 (by omega) hN]; rfl
mutual
def ms : Step → Nat | .mk _ _ _ a k => 3 + a.length + mks k
def mks : List (BlockOf Step) → Nat | [] => 0 | b :: k => mb b + mks k
def mb : BlockOf Step → Nat | ⟨ss, _⟩ => mls ss + 1
def mls : List Step → Nat | [] => 0 | s :: l => ms s + mls l
end
theorem ms_eq (s : Step) : ms s = 3 + s.args.length + mks s.kids := by cases s; simp only [ms]; rfl
theorem mb_eq (b : Block) : mb b = mls b.steps + 1 := by cases b; simp only [mb]
theorem mks_eq : ∀ k : List Block, mks k = (k.map mb).sum
 | [] => rfl
 | b :: k => by rw [List.map_cons, List.sum_cons, ← mks_eq k]; simp only [mks]
theorem mls_eq : ∀ l : List Step, mls l = (l.map ms).sum
 | [] => rfl
 | s :: l => by rw [List.map_cons, List.sum_cons, ← mls_eq l]; simp only [mls]
mutual
theorem ms_le : ∀ s : Step, ms s ≤ 3 + 3 * ssz s
 | .mk o _ _ a k => by
  have h1 := mks_le k
  simp only [ms, ssz]
  omega
theorem mks_le : ∀ k : List (BlockOf Step), mks k ≤ k.length + 3 * ksz k
 | [] => by simp [mks]
 | b :: k => by
  have h1 := mb_le b
  have h2 := mks_le k
  simp only [mks, ksz, List.length_cons]
  omega
theorem mb_le : ∀ b : BlockOf Step, mb b ≤ 1 + 3 * bsz b
 | ⟨ss, r⟩ => by
  have h1 := mls_le ss
  simp only [mb, bsz]
  omega
theorem mls_le : ∀ l : List Step, mls l ≤ 3 * l.length + 3 * lsz l
 | [] => by simp [mls]
 | s :: l => by
  have h1 := ms_le s
  have h2 := mls_le l
  simp only [mls, lsz, List.length_cons]
  omega
end
def MR (rec : List Step → Int → Option (Int × List Step)) (l : List Step) : Prop := ∀ k : Nat, k + mls l ≤ 20000000 → ∃ (k' : Nat) (l' : List Step), k' ≤ k + mls l ∧ rec l k = some ((k' : Int), l')
theorem markBlockS_eq {rec : List Step → Int → Option (Int × List Step)} {l : List Block} {k N : Nat} (hN : 2000000 ≤ N) (hl : l.length ≤ 1048576) (hok : ∀ b ∈ l, MR rec b.steps) (hk : k + mks l ≤ 20000000) : ∃ (k' : Nat) (l' : List Block), k' ≤ k + mks l ∧ laws_markBlockS N rec l k = some ((k' : Int), l') := by
 rw [mks_eq] at hk ⊢
 obtain ⟨k', l', h1, h2⟩ := mark_of (L := laws_markBlockS_L1 rec) (wt := mb) (ok := fun b => MR rec b.steps) (fun n k l => by rw [laws_markBlockS_L1, if_neg (by simp [len_def])]) (fun n k A x C hA hx hk => by
  rw [mb_eq] at hk ⊢
  obtain ⟨k1, l1, g1, g2⟩ := hx k (by omega)
  rw [laws_markBlockS_L1, if_pos (by simp [len_def]; omega), w_succ (n := A.length) (by omega)]
  simp only [get_mid, put_mid, Option.bind_some]
  rw [g2]
  simp only [get_mid, put_mid, Option.bind_some]
  rw [w_succ (n := k1) (by omega)]
  exact ⟨k1 + 1, _, by omega, rfl⟩) hN hl hok hk
 refine ⟨k', l', h1, ?_⟩
 unfold laws_markBlockS
 rw [h2]; rfl
theorem markStepS_F_eq {N : Nat} (hN : 2000000 ≤ N) : ∀ (m : Nat) (l : List Step), l.length + lsz l ≤ 1048576 → l.length + lsz l < m → MR (laws_markStepS_F N m) l := by
 intro m
 induction m with
 | zero => intro l _ h; omega
 | succ m ih =>
  intro l hl hm k hk
  rw [mls_eq] at hk ⊢
  rw [laws_markStepS_F]
  unfold laws_markStepS_B
  obtain ⟨k', l', h1, h2⟩ := mark_of (L := laws_markStepS_B_L1 N (laws_markStepS_F N m)) (wt := ms) (ok := fun s => ssz s ≤ 1048576 ∧ ∀ b ∈ s.kids, MR (laws_markStepS_F N m) b.steps) (fun n k l => by rw [laws_markStepS_B_L1, if_neg (by simp [len_def])]) (fun n k A x C hA hx hk => by
   have hz := ssz_eq x
   obtain ⟨hx1, hx2⟩ := hx
   rw [ms_eq] at hk ⊢
   obtain ⟨o, nu, it, ar, kd⟩ := x
   simp only [Step.args, Step.kids] at hz hx2 hk ⊢
   have e1 := markIntS_eq (l := ar) (by omega) (k := k + 1 + 1 + 1) (by omega) hN
   obtain ⟨k1, l1, g1, g2⟩ := markBlockS_eq (rec := laws_markStepS_F N m) (l := kd) (k := k + 1 + 1 + 1 + ar.length) hN (by omega) hx2 (by omega)
   rw [laws_markStepS_B_L1, if_pos (by simp [len_def]; omega), w_succ (n := k) (by omega), w_succ (n := k + 1) (by omega), w_succ (n := k + 1 + 1) (by omega), w_succ (n := A.length) (by omega)]
   simp only [get_mid, put_mid, Option.bind_some, Step.op, Step.num, Step.into, Step.args, Step.kids]
   rw [e1]
   simp only [get_mid, put_mid, Option.bind_some, Step.op, Step.num, Step.into, Step.args, Step.kids]
   rw [g2]
   simp only [Option.bind_some]
   exact ⟨k1, _, by omega, rfl⟩) hN (by omega) (fun s hs => by
    have h1 := lsz_mem hs
    have h2 := List.length_pos_of_mem hs
    refine ⟨by omega, fun b hb => ?_⟩
    have h3 := kid_le hb
    rw [bsz_eq] at h3
    exact ih b.steps (by omega) (by omega)) hk
  refine ⟨k', l', h1, ?_⟩
  rw [h2]; rfl
theorem markStepS_eq {N : Nat} (hN : 2000000 ≤ N) {b : Block} (hb : Bs b) : MR (laws_markStepS N) b.steps := by
 unfold Bs at hb
 rw [bsz_eq] at hb
 unfold laws_markStepS
 exact markStepS_F_eq hN N b.steps hb (by omega)
def rzM (r : RRoutine) : Nat := r.params.length + r.lent.length + 1 + mls r.body.steps + 1
theorem markRoutineS_eq {l : List RRoutine} {k N : Nat} (hN : 2000000 ≤ N) (hl : l.length ≤ 1048576) (hok : ∀ r ∈ l, rtz r ≤ 1048576) (hk : k + (l.map rzM).sum ≤ 20000000) : ∃ (k' : Nat) (l' : List RRoutine), k' ≤ k + (l.map rzM).sum ∧ laws_markRoutineS N l k = some ((k' : Int), l') := by
 obtain ⟨k', l', h1, h2⟩ := mark_of (L := laws_markRoutineS_L1 N) (wt := rzM) (ok := fun r => rtz r ≤ 1048576) (fun n k l => by rw [laws_markRoutineS_L1, if_neg (by simp [len_def])]) (fun n k A x C hA hx hk => by
  unfold rtz at hx
  unfold rzM at hk ⊢
  have e1 := markIntS_eq (l := x.params) (by omega) (k := k) (by omega) hN
  have e2 := markIntS_eq (l := x.lent) (by omega) (k := k + x.params.length) (by omega) hN
  obtain ⟨k1, l1, g1, g2⟩ := markStepS_eq hN (b := x.body) (by unfold Bs; omega) (k + x.params.length + x.lent.length + 1) (by omega)
  rw [laws_markRoutineS_L1, if_pos (by simp [len_def]; omega), w_succ (n := A.length) (by omega)]
  simp only [get_mid, put_mid, Option.bind_some]
  rw [e1]
  simp only [get_mid, put_mid, Option.bind_some]
  rw [e2]
  simp only [get_mid, put_mid, Option.bind_some]
  rw [w_succ (n := k + x.params.length + x.lent.length) (by omega), g2]
  simp only [get_mid, put_mid, Option.bind_some]
  rw [w_succ (n := k1) (by omega)]
  exact ⟨k1 + 1, _, by omega, rfl⟩) hN hl hok hk
 refine ⟨k', l', h1, ?_⟩
 unfold laws_markRoutineS
 rw [h2]; rfl
theorem markNormal_eq {n : RNormal} (hn : nmz n ≤ 1048576) {N : Nat} (hN : 2000000 ≤ N) : ∃ (k : Nat) (d : List RDecl) (r : List RRoutine), laws_markNormal N n.decls n.routines 1 = some ((k : Int), d, r) := by
 unfold nmz at hn
 have s1 : (n.decls.map dzM).sum ≤ 2 * n.decls.length + 1 * (n.decls.map dz).sum := sum_le fun d _ => by unfold dzM dz; omega
 have s2 : (n.routines.map rzM).sum ≤ 2 * n.routines.length + 3 * (n.routines.map rtz).sum := sum_le fun r _ => by
  have := mls_le r.body.steps
  unfold rzM rtz
  rw [bsz_eq]; omega
 obtain ⟨k1, d, g1, g2⟩ := markDeclS_eq (l := n.decls) (k := 1) hN (by omega) (fun d hd => by have := mem_sum dz hd; omega) (by omega)
 obtain ⟨k2, r, g3, g4⟩ := markRoutineS_eq (l := n.routines) (k := k1) hN (by omega) (fun d hd => by have := mem_sum rtz hd; omega) (by omega)
 refine ⟨k2, d, r, ?_⟩
 unfold laws_markNormal
 rw [show (1 : Int) = ((1 : Nat) : Int) from rfl, g2]
 simp only [Option.bind_some]
 rw [g4]; rfl
end RC

